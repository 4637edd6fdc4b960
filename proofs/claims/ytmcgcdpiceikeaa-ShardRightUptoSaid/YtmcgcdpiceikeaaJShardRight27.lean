/- Joined texts of the claim ShardRight (part 27): contracts of functions and plain laws. -/
import Derived.Laws.Externs
import Derived.Lib.Overlaps
import Derived.Test.YtmcgcdpiceikeaaJShardRight16
import Derived.Test.YtmcgcdpiceikeaaJShardRight2
section
/- slices.Insert, Delete, DeleteFunc at this program's element types. -/
namespace Go.Proofs.Ytmcgcdpiceikeaa
open Go.RowKit Go.Proofs.YtmcgcdpiceikeaaW.PrintWords
set_option linter.unusedVariables false
set_option linter.unusedSimpArgs false
-- not of this seat: insert Letter
/-- What slices.Insert comes to, and what else then stands. -/
def InsertPostRow (w : World) (base : Nat) (v : Value) (css : List (List Value)) (e : Ending) (w' : World) : Prop := ∃ v' : Value, e = .returned v' ∧ Own 3 50 w' base v' css ∧ w.grownBy w' v.ownBlock
set_option maxHeartbeats 1000000 in
set_option maxRecDepth 100000 in
theorem InsertRow (v : Value) (css : List (List Value)) (i : Nat) (c : List Value) (vb base : Nat) (w : World) (hv : Own 3 50 w base v css) (hbase : base ≤ w.heap.size) (hi : i ≤ css.length) (hvb : w.heap[vb]? = some (.cells c.toArray 50 (0, 0))) (hc : c.length = 3 ∧ ∀ u ∈ c, u.oneCell' = true) (hne : v.ownBlock ≠ some vb) (hl : (css.length + 1) * 40 ≤ 140737488355328) :
    Calls Try.prog 103 #[v, .int .i64 i, .slice (some ⟨vb, 0, none⟩) 1 1] w (InsertPostRow w base v (css.take i ++ c :: css.drop i)) := by
  have hsz : (Try.prog.info? 50).map (·.size) = some 3 := by kernel_rfl
  have hcv : Kd.C (raw 3) w (some ⟨vb, 0, none⟩) 1 [c] := by
    refine ⟨rfl, by omega, fun _ => ⟨_, rfl, fun j p hj => ?_⟩⟩
    have h0 : j = 0 := by have := (List.getElem?_eq_some_iff.1 hj).1; simp at this; omega
    subst h0
    obtain rfl : c = p := by simpa using hj
    exact ⟨c, hc.1, ⟨rfl, hc.1, hc.2⟩, fun i u hu => by rw [Nat.zero_mul, Nat.zero_add, Addr.add_lit, Nat.zero_add, cell_row hvb]; exact hu⟩
  by_cases hin : i = css.length
  · have happ : css.take i ++ c :: css.drop i = css ++ [c] := by subst hin; simp
    rw [happ]
    have HN := Aside0.mk hin
    have hR := Aside0.mk hv.R
    have hCV := Aside0.mk hcv
    have hL := Aside0.mk hl
    have hm : css.length ≤ 9223372036854775807 := by omega
    obtain ⟨A, cap, rfl⟩ : ∃ A cap, v = .slice A css.length cap := by
      obtain ⟨A, cap, he, _⟩ := hv.sl
      exact ⟨A, cap, he⟩
    have hcp : css.length ≤ cap := by
      obtain ⟨A', cap', he, h, _⟩ := hv.sl
      cases he
      exact h
    clear hv hcv hl hvb hi happ hc hne hsz
    subst hin
    go_enter Try.func103, Try.ntmps103
    go_wp2_with (at_builtin; refine Kd.R_append_rows (raw 3) (w0 := w) base rfl (.tmp 23) (.tmp 24) 22 50 (.agg #[(.string ⟨#[]⟩), (.string ⟨#[]⟩), (.int .u64 0)]) 40 rfl Try.underlying22 infoRow rfl (by decide) (by omega) (.slice A css.length cap) css [c] (some ⟨vb, 0, none⟩) 1 1 (fun _ => True) (fun _ => False) rfl rfl hR.out hCV.out (fun _ _ h => h) (fun _ h => h.elim) (fun _ _ => trivial) (Below.refl _ _) hbase hL.out ?_; intro v7 w7 ho7 hb7 hg7 _)
    all_goals go_ret
    all_goals exact ⟨_, rfl, Own.of_R ho7, by rw [ownBlock_slice] at hg7 ⊢; exact hg7⟩
  · have hin' : i < css.length := by omega
    rcases hv.cases with ⟨rfl, rfl⟩ | ⟨g, cap, cur, rfl, hbg, hgw, hh, hcp, hcm, hcl⟩
    · simp at hin'
    · have hg : vb ≠ g := fun e => hne (by simp [Value.ownBlock, e])
      have h1 := hv.1
      have hk1 : ∀ c ∈ css, c.length = 3 := fun c hc => (h1 c hc).1
      have hfl := flat_len hk1
      have hAl : (css.take i).flatten.length = i * 3 := by rw [flat_len (fun c hc => hk1 c (List.mem_of_mem_take hc)), List.length_take, Nat.min_eq_left hi]
      have hBl : (css.drop i).flatten.length = (css.length - i) * 3 := by rw [flat_len (fun c hc => hk1 c (List.mem_of_mem_drop hc)), List.length_drop]
      have hAB : css.flatten = (css.take i).flatten ++ (css.drop i).flatten := by rw [← List.flatten_append, List.take_append_drop]
      have hnew : ∀ x ∈ css.take i ++ c :: css.drop i, x.length = 3 ∧ ∀ u ∈ x, u.oneCell' = true := by
        intro x hx
        rcases List.mem_append.1 hx with hx | hx
        · exact h1 x (List.mem_of_mem_take hx)
        · rcases List.mem_cons.1 hx with rfl | hx
          · exact hc
          · exact h1 x (List.mem_of_mem_drop hx)
      have hnl : (css.take i ++ c :: css.drop i).length = css.length + 1 := by simp; omega
      have hnf : (css.take i ++ c :: css.drop i).flatten = (css.take i).flatten ++ c ++ (css.drop i).flatten := by simp
      have hone := flat_one h1
      have hcell := cell_row hh
      have hB1 : ∀ v ∈ (css.drop i).flatten, v.oneCell' = true := flat_one (fun c hc => h1 c (List.mem_of_mem_drop hc))
      have hcv0 : ∀ (W : World), (∀ x, W.heap[vb]? = x → x = some (.cells c.toArray 50 (0, 0))) → ∀ j v, c[j]? = some v → W.cell? ((⟨vb, 0, none⟩ : Addr).add j) = some v := fun W hW j v hj => by
        rw [Addr.add_lit, Nat.zero_add, cell_row (hW _ rfl)]; exact hj
      generalize hn : css.length = n at *
      unfold maxLen at hcm
      by_cases hroom : n + 1 ≤ cap
      · obtain ⟨W1, hW1⟩ : ∃ W1, W1 = w.setRow g (splice (css.flatten ++ cur) ((i + 1) * 3) (css.drop i).flatten).toArray := ⟨_, rfl⟩
        have hh1 : W1.heap[g]? = some (.cells (splice (css.flatten ++ cur) ((i + 1) * 3) (css.drop i).flatten).toArray 50 (0, 0)) := by rw [hW1]; exact setRow_heap w g _ _ _ _ hh
        have hsl1 : (splice (css.flatten ++ cur) ((i + 1) * 3) (css.drop i).flatten).length = cap * 3 := by
          rw [length_splice _ _ _ (by rw [hBl]; simp only [List.length_append]; omega)]; simp only [List.length_append]; omega
        have hcp1 : ∀ (W : World), W.heap = w.heap → ∀ ty dc sc dl, dl = n - i → (Builtin.copy_ #[22, 22] ty #[.slice (some ⟨g, (i + 1) * 3, none⟩) dl dc, .slice (some ⟨g, i * 3, none⟩) (n + 1 - i) sc]).run Try.prog W = .ok (goInt ((n - i : Nat) : Int)) (W.setRow g (splice (css.flatten ++ cur) ((i + 1) * 3) (css.drop i).flatten).toArray) := fun W hWw ty dc sc dl hdl =>
          run_copy_k W 22 22 ty 50 3 (n - i) g ((i + 1) * 3) _ dc ⟨g, i * 3, none⟩ _ sc (css.flatten ++ cur) (css.drop i).flatten 50 Try.underlying22 hsz (by simp only [Nat.min_def]; split <;> omega) hBl (by rw [hWw]; exact hh) (by rw [hBl]; simp only [List.length_append]; omega)
            (fun j v hj => by
              rw [Addr.add_lit, cell_row (by rw [hWw]; exact hh), hAB, List.append_assoc, List.getElem?_append_right (by rw [hAl]; omega), hAl, Nat.add_sub_cancel_left, List.getElem?_append_left (List.getElem?_eq_some_iff.1 hj).1]
              exact hj) hB1
        have hcp2 : ∀ (W : World), W.heap = W1.heap → ∀ ty dc, (Builtin.copy_ #[22, 22] ty #[.slice (some ⟨g, i * 3, none⟩) (n + 1 - i) dc, .slice (some ⟨vb, 0, none⟩) 1 1]).run Try.prog W = .ok (goInt ((1 : Nat) : Int)) (W.setRow g (splice (splice (css.flatten ++ cur) ((i + 1) * 3) (css.drop i).flatten) (i * 3) c).toArray) := fun W hWw ty dc =>
          run_copy_k W 22 22 ty 50 3 1 g (i * 3) _ dc ⟨vb, 0, none⟩ 1 1 _ c 50 Try.underlying22 hsz (by simp only [Nat.min_def]; split <;> omega) (by rw [hc.1]) (by rw [hWw]; exact hh1) (by rw [hsl1, hc.1]; omega)
            (hcv0 W (fun x hx => by rw [← hx, hWw, hW1, setRow_other w g vb _ hg]; exact hvb)) hc.2
        have hfin : splice (splice (css.flatten ++ cur) ((i + 1) * 3) (css.drop i).flatten) (i * 3) c = (css.take i ++ c :: css.drop i).flatten ++ cur.drop 3 := by
          have := splice_insert (css.take i).flatten (css.drop i).flatten cur c (by rw [hc.1, hcl]; omega)
          rw [hAl, hc.1, ← hAB] at this
          rw [show (i + 1) * 3 = i * 3 + 3 by omega, this, hnf]
        have hov : ∀ lb cb, (callFunc 104 #[.slice (some ⟨vb, 0, none⟩) 1 1, .slice (some ⟨g, (i + 1) * 3, none⟩) lb cb]).run Try.prog w = .ok (.value (.bool false)) w := fun lb cb => by
          rw [run_callFunc_extern (P := Try.prog) Try.func104 (by kernel_rfl) (by kernel_rfl) (by kernel_rfl) (e := Extern.SlicesOverlaps.overlaps #[22, 22] #[4]) (by kernel_rfl),
            Lib.run_overlaps_apart w 22 4 50 Try.underlying22 3 sizeOfRow ⟨vb, 0, none⟩ ⟨g, (i + 1) * 3, none⟩ 1 1 lb cb hg 50 50 3 ((css.flatten ++ cur).length) (by simp [World.shape?, hvb, hc.1]) (by simp [World.shape?, hh]) (by simp only [List.length_append]; omega) (by simp [World.frozen?, hvb]) (by simp [World.frozen?, hvb])]
          rfl
        have HF := Aside0.mk hfin
        have HH := Aside0.mk hh
        have HN := Aside0.mk hnl
        have HW := Aside0.mk hW1
        have HH1 := Aside0.mk hh1
        have hb2 : ¬ (cap = i + 1) := by omega
        have hb4 : ¬ (cap = i) := by omega
        have hz2 : ¬ ((i : Int) = (n : Int)) := by omega
        have hw1 : IntKind.i64.wrap ((i : Int) + 1) = (i : Int) + 1 := by rw [IntKind.wrap_i64]; omega
        have hb1 : (0 : Int) ≤ (i : Int) + 1 := by omega
        have htn : ((i : Int) + 1).toNat = i + 1 := by omega
        have hb3 : (i : Int) ≤ (n : Int) := by omega
        have hb5 : (i : Int) + 1 ≤ (n : Int) + 1 := by omega
        have hb6 : (i : Int) ≤ (n : Int) + 1 := by omega
        have HCL := Aside0.mk hcl
        have H1 := Aside0.mk hnew
        have Hn := Aside0.mk hn
        clear hfin hnl hW1 hh1 hcv0 hB1 hcell hone hnf hAB hfl hsl1 hcl hnew h1 hk1 hAl hBl hv hvb hh hl hcv hc hn hne hsz hin
        go_enter Try.func103, Try.ntmps103
        go_wp2_with (simp only [hov])
        go_region_law (refine step_copy_run rfl _ _ 22 22 rfl (.slice (some ⟨g, (i + 1) * 3, none⟩) (n - i) (cap - (i + 1))) (.slice (some ⟨g, i * 3, none⟩) (n + 1 - i) (cap - i)) (by simp [Act.eval, Act.put]) (by simp [Act.eval, Act.put]) (hcp1 w.drew rfl _ _ _ _ rfl) ?_)
        go_wp2_with ((with_reducible refine gate_builtin (b := .copy) (xs := #[.tmp 80, .tmp 81]) rfl ?_); refine wpList_copy_run _ rfl _ _ 22 22 rfl (.slice (some ⟨g, i * 3, none⟩) (n + 1 - i) (cap - i)) (.slice (some ⟨vb, 0, none⟩) 1 1) rfl rfl (hcp2 _ (by rw [HW.out]; rfl) _ _) ?_)
        go_ret
        obtain ⟨r1, r2⟩ := rows2 (w := w) (w' := ((w.drew.setRow g (splice (css.flatten ++ cur) ((i + 1) * 3) (css.drop i).flatten).toArray).setRow g (splice (splice (css.flatten ++ cur) ((i + 1) * 3) (css.drop i).flatten) (i * 3) c).toArray)) HH.out rfl rfl rfl rfl
        exact ⟨_, rfl, Own.mk (css := css.take i ++ c :: css.drop i) (cur := cur.drop 3) H1.out hbg (r1.trans (by rw [HF.out])) HN.out.symm hroom (by unfold maxLen; omega) (by rw [List.length_drop, HCL.out]; omega), r2⟩
      · obtain ⟨i0, hi0, hz0, hzs, hzb⟩ := info_parts infoRow
        obtain ⟨G, hG⟩ : ∃ G, G = grownCap w (n + 1) cap 50 := ⟨_, rfl⟩
        have hGn : n + 1 ≤ G := by rw [hG]; exact grownCap_ge w _ _ _
        have hG63 : G ≤ maxLen := by rw [hG]; exact grownCap_le_maxLen w (n + 1) cap 50 (by unfold maxLen; omega)
        obtain ⟨Z, hZ⟩ : ∃ Z : Nat → List Value, Z = fun m => (Builtin.zeroCells (.agg #[(.string ⟨#[]⟩), (.string ⟨#[]⟩), (.int .u64 0)] : Value).cells m).toList := ⟨_, rfl⟩
        have hZl : ∀ m, (Z m).length = m * 3 := fun m => by rw [hZ]; simp only [Array.length_toList, zeroCells_size]; rfl
        obtain ⟨ROW, hROW⟩ : ∃ ROW : List Value, ROW = (css.take i).flatten ++ Z (n + 1 - i) ++ Z (G - (n + 1)) := ⟨_, rfl⟩
        have hRl : ROW.length = G * 3 := by rw [hROW]; simp only [List.length_append, hAl, hZl]; omega
        have hold : (Builtin.firstCells i0.size i (.slice (some ⟨g, 0, none⟩) i cap)).run Try.prog w.drew = .ok (css.take i).flatten.toArray w.drew := by
          rw [hzs]
          exact run_firstCells_some w.drew 3 i ⟨g, 0, none⟩ i cap _ hAl (fun j v hj => by
            rw [Addr.add_lit, Nat.zero_add]
            show w.cell? _ = _
            rw [hcell, hAB, List.append_assoc, List.getElem?_append_left (List.getElem?_eq_some_iff.1 hj).1]
            exact hj)
        have hrz : ∀ ty, (Builtin.append_ #[22, 3] ty #[.slice (some ⟨g, 0, none⟩) i cap, .int .i64 ((n : Int) + 1 - (i : Int))]).run Try.prog w = .ok (.slice (some ⟨w.heap.size, 0, none⟩) (n + 1) G) (w.drew.alloc (.cells ROW.toArray 50)) := fun ty => by
          have h := Lib.run_append_grow_zeros (P := Try.prog) w 22 3 ty 50 i0 _ .i64 .i64 Try.underlying22 Try.underlying3 hi0 hz0 (some ⟨g, 0, none⟩) i cap (css.take i).flatten hold (n + 1 - i) (by omega) (by omega) (by omega) (by omega) (by rw [hzb]; omega) (by rw [hzb, show i + (n + 1 - i) = n + 1 by omega]; exact growslice_fits (by omega) (by omega))
          rw [show i + (n + 1 - i) = n + 1 by omega, ← hG] at h
          have hR : ROW.toArray = (css.take i).flatten.toArray ++ Builtin.zeroCells (.agg #[(.string ⟨#[]⟩), (.string ⟨#[]⟩), (.int .u64 0)] : Value).cells (n + 1 - i) ++ Builtin.zeroCells (.agg #[(.string ⟨#[]⟩), (.string ⟨#[]⟩), (.int .u64 0)] : Value).cells (G - (n + 1)) := by
            rw [hROW, hZ]; apply Array.ext'; simp
          rw [show (n : Int) + 1 - (i : Int) = ((n + 1 - i : Nat) : Int) by omega, h, hR]
        obtain ⟨W1, hW1⟩ : ∃ W1, W1 = w.drew.alloc (.cells ROW.toArray 50) := ⟨_, rfl⟩
        rw [← hW1] at hrz
        have hh1 : W1.heap[w.heap.size]? = some (.cells ROW.toArray 50 (0, 0)) := by rw [hW1]; exact heap_alloc_new w.drew _
        have hvw : vb < w.heap.size := (Array.getElem?_eq_some_iff.1 hvb).1
        have hkeep : ∀ b, b < w.heap.size → W1.heap[b]? = w.heap[b]? := fun b hb => by rw [hW1]; exact Below.heap_alloc w.drew _ b hb
        have hcpA : ∀ (W : World), W.heap = W1.heap → ∀ ty dc, (Builtin.copy_ #[22, 22] ty #[.slice (some ⟨w.heap.size, i * 3, none⟩) (n + 1 - i) dc, .slice (some ⟨vb, 0, none⟩) 1 1]).run Try.prog W = .ok (goInt ((1 : Nat) : Int)) (W.setRow w.heap.size (splice ROW (i * 3) c).toArray) := fun W hWw ty dc =>
          run_copy_k W 22 22 ty 50 3 1 w.heap.size (i * 3) _ dc ⟨vb, 0, none⟩ 1 1 ROW c 50 Try.underlying22 hsz (by simp only [Nat.min_def]; split <;> omega) (by rw [hc.1]) (by rw [hWw]; exact hh1) (by rw [hRl, hc.1]; omega)
            (hcv0 W (fun x hx => by rw [← hx, hWw, hkeep vb hvw]; exact hvb)) hc.2
        obtain ⟨W2, hW2⟩ : ∃ W2, W2 = W1.setRow w.heap.size (splice ROW (i * 3) c).toArray := ⟨_, rfl⟩
        have hh2 : W2.heap[w.heap.size]? = some (.cells (splice ROW (i * 3) c).toArray 50 (0, 0)) := by rw [hW2]; exact setRow_heap W1 _ _ _ _ _ hh1
        have hcpB : ∀ (W : World), W.heap = W2.heap → ∀ ty dc sc dl, dl = n - i → (Builtin.copy_ #[22, 22] ty #[.slice (some ⟨w.heap.size, (i + 1) * 3, none⟩) dl dc, .slice (some ⟨g, i * 3, none⟩) (n - i) sc]).run Try.prog W = .ok (goInt ((n - i : Nat) : Int)) (W.setRow w.heap.size (splice (splice ROW (i * 3) c) ((i + 1) * 3) (css.drop i).flatten).toArray) := fun W hWw ty dc sc dl hdl =>
          run_copy_k W 22 22 ty 50 3 (n - i) w.heap.size ((i + 1) * 3) _ dc ⟨g, i * 3, none⟩ _ sc _ (css.drop i).flatten 50 Try.underlying22 hsz (by simp only [Nat.min_def]; split <;> omega) hBl (by rw [hWw]; exact hh2) (by rw [length_splice _ _ _ (by rw [hRl, hc.1]; omega), hRl, hBl]; omega)
            (fun j v hj => by
              rw [Addr.add_lit, cell_row (by rw [hWw, hW2, setRow_other _ _ _ _ (by omega), hkeep g hgw]; exact hh), hAB, List.append_assoc, List.getElem?_append_right (by rw [hAl]; omega), hAl, Nat.add_sub_cancel_left, List.getElem?_append_left (List.getElem?_eq_some_iff.1 hj).1]
              exact hj) hB1
        have hfin : splice (splice ROW (i * 3) c) ((i + 1) * 3) (css.drop i).flatten = (css.take i ++ c :: css.drop i).flatten ++ Z (G - (n + 1)) := by
          have := splice_two (css.take i).flatten (Z (n + 1 - i)) c (css.drop i).flatten (by rw [hZl, hc.1, hBl]; omega) (Z (G - (n + 1)))
          rw [hAl, hc.1, ← hROW] at this
          rw [show (i + 1) * 3 = i * 3 + 3 by omega, this, hnf]
        have HF := Aside0.mk hfin
        have HN := Aside0.mk hnl
        have HW := Aside0.mk hW1
        have HW2 := Aside0.mk hW2
        have HH1 := Aside0.mk hh1
        have HZ := Aside0.mk hZl
        have HK := Aside0.mk hkeep
        have H63 := Aside0.mk hG63
        have hb4 : ¬ (cap = i) := by omega
        have hb7 : ¬ (G = i + 1) := by omega
        have hb8 : ¬ (G = i) := by omega
        have hz2 : ¬ ((i : Int) = (n : Int)) := by omega
        have hw1 : IntKind.i64.wrap ((i : Int) + 1) = (i : Int) + 1 := by rw [IntKind.wrap_i64]; omega
        have hb1 : (0 : Int) ≤ (i : Int) + 1 := by omega
        have htn : ((i : Int) + 1).toNat = i + 1 := by omega
        have hb3 : (i : Int) ≤ (n : Int) := by omega
        have hb5 : (i : Int) + 1 ≤ (n : Int) + 1 := by omega
        have hb6 : (i : Int) ≤ (n : Int) + 1 := by omega
        have H1 := Aside0.mk hnew
        have hg0 : Aside0 (base ≤ w.heap.size) := ⟨hbase⟩
        clear hfin hnl hW1 hW2 hh1 hh2 hcv0 hB1 hcell hone hnf hAB hfl hcl hnew h1 hk1 hAl hBl hv hvb hh hcv hc hn hne hsz hin hZl hRl hROW hold hkeep hG hZ hi0 hz0 hzs hzb hG63
        go_enter Try.func103, Try.ntmps103
        go_wp2_with (first | (at_builtin; refine Lib.wpList_append_run _ rfl _ _ _ _ rfl (.slice (some ⟨g, 0, none⟩) i cap) (.int .i64 ((n : Int) + 1 - (i : Int))) rfl rfl _ _ (hrz _) ?_) | ((with_reducible refine gate_builtin (b := .copy) (xs := #[.tmp 43, .tmp 44]) rfl ?_); refine wpList_copy_run _ rfl _ _ 22 22 rfl (.slice (some ⟨w.heap.size, i * 3, none⟩) (n + 1 - i) (G - i)) (.slice (some ⟨vb, 0, none⟩) 1 1) rfl rfl (hcpA W1 rfl _ _) ?_))
        go_region_law (refine step_copy_run rfl _ _ 22 22 rfl (.slice (some ⟨w.heap.size, (i + 1) * 3, none⟩) (n - i) (G - (i + 1))) (.slice (some ⟨g, i * 3, none⟩) (n - i) (cap - i)) (by simp [Act.eval, Act.put]) (by simp [Act.eval, Act.put]) (hcpB (World.drew _) (by rw [HW2.out]; rfl) _ _ _ _ rfl) ?_)
        go_wp2
        go_ret
        refine ⟨_, rfl, Own.mk (css := css.take i ++ c :: css.drop i) (cur := Z (G - (n + 1))) H1.out hg0.out ((rows2 (a := (splice ROW (i * 3) c).toArray) (b := (splice (splice ROW (i * 3) c) ((i + 1) * 3) (css.drop i).flatten).toArray) HH1.out rfl rfl rfl rfl).1.trans (by rw [HF.out])) HN.out.symm hGn H63.out (by rw [HZ.out]), ?_⟩
        exact grown_new HW.out (rows2 (w' := (W1.setRow w.heap.size (splice ROW (i * 3) c).toArray).drew.setRow w.heap.size (splice (splice ROW (i * 3) c) ((i + 1) * 3) (css.drop i).flatten).toArray) (a := (splice ROW (i * 3) c).toArray) (b := (splice (splice ROW (i * 3) c) ((i + 1) * 3) (css.drop i).flatten).toArray) HH1.out rfl rfl rfl rfl).2
end Go.Proofs.Ytmcgcdpiceikeaa
end
