/- Joined texts of the claim DriveCommits (part 46): contracts of functions and plain laws. -/
import Derived.BigQuiet
import Derived.BigRegion
import Derived.Deep.QuietTactic
import Derived.Test.YtkennobdoldlkaaJDriveCommits44
import Derived.Test.YtkennobdoldlkaaJDriveCommits45
section
/- The document's example of chapter 20 holds, whenever it is asked. -/
namespace Go.Proofs.Ytkennobdoldlkaa.PAll
open Go.RowKit Go.Proofs.YtkennobdoldlkaaW.PrintWords Go.Proofs.Ytkennobdoldlkaa
set_option linter.unusedVariables false
set_option linter.unusedSimpArgs false
theorem exK_row : ∀ j : Fin 8, (([.int .i64 2, .int .i64 1, .int .i64 5, .int .i64 3, .int .i64 3, .int .i64 6, .int .i64 4, .int .i64 4] : List Value))[j.1]? = some (.int .i64 (exK j.1)) := by
  intro j
  match j with
  | 0 => rfl
  | 1 => rfl
  | 2 => rfl
  | 3 => rfl
  | 4 => rfl
  | 5 => rfl
  | 6 => rfl
  | 7 => rfl
theorem exG_row : ∀ j : Fin 8, (([.int .u64 1, .int .u64 2, .int .u64 0, .int .u64 1, .int .u64 2, .int .u64 0, .int .u64 1, .int .u64 2] : List Value))[j.1]? = some (.int .u64 (exG j.1)) := by
  intro j
  match j with
  | 0 => rfl
  | 1 => rfl
  | 2 => rfl
  | 3 => rfl
  | 4 => rfl
  | 5 => rfl
  | 6 => rfl
  | 7 => rfl
set_option maxHeartbeats 1000000 in
set_option maxRecDepth 100000 in
theorem shown20 (w : World) : Calls Try.prog 9 #[] w fun e w' => e = .returned (.bool true) ∧ Below w.heap.size w w' := by
  have hok0 := ex_ok 0 (by omega)
  have hl0 : exStp.length ≤ 3000000000000 := hok0.len
  have hg0 : ∀ x ∈ exStp, 0 ≤ x.f0 ∧ x.f0 ≤ 18446744073709551615 := hok0.rng
  go_enter Try.func9, Try.ntmps9
  go_upto_region 2 with (first
    | (go_at_call 29; refine (ferrulelaw20_two.calls 1 0 exStp w rfl).mono ?_; rintro e w2 ⟨v2, rfl, hR2, hb2⟩; obtain ⟨A2, c2, rfl, hc2, hC2⟩ := Sl.of_R hR2; have HC2 := Aside0.mk hC2; have HB2 := Aside0.mk hb2; clear hR2 hC2 hb2)
    | (go_at_call 16; refine (begin_calls 1 0 A2 c2 exStp w2 HC2.out hc2 hl0 hg0).mono ?_; rw [ex_begin]; rintro e w3 ⟨v3, rfl, hs3, ho3, hb3⟩; obtain ⟨A3, c3, rfl, hc3⟩ := own_sl20 ho3; have HO3 := Aside0.mk ho3; have HB3 := Aside0.mk hb3; unfold dagg; dsimp only; clear ho3 hb3))
  rw [List.length_map] at HO3 ⊢
  have HD4 := Aside0.mk (DrvAt.made (w0 := w2) (w := w3) (r := exD 0) rfl HO3.out rfl)
  have HB4 := Aside0.mk ((HB2.out.trans (HB3.out.mono HB2.out.size)).alloc (HB2.out.trans (HB3.out.mono HB2.out.size)).size (.cells #[.int .u64 (exD 0).ta, .int .u64 (exD 0).ti, .slice A3 (exD 0).st.length c3, .int .i64 (exD 0).ph, .int .i64 (exD 0).ap, .bool (exD 0).fa, .bool (exD 0).og, .bool (exD 0).cm, .slice none 0 0] 30))
  have hq : w.heap.size ≤ w3.heap.size := (HB2.out.trans (HB3.out.mono HB2.out.size)).size
  change Code.wp _ _ _ _ (w3.alloc (.cells #[.int .u64 (exD 0).ta, .int .u64 (exD 0).ti, .slice A3 (exD 0).st.length c3, .int .i64 (exD 0).ph, .int .i64 (exD 0).ap, .bool (exD 0).fa, .bool (exD 0).og, .bool (exD 0).cm, .slice none 0 0] 30))
  generalize w3.alloc (.cells #[.int .u64 (exD 0).ta, .int .u64 (exD 0).ti, .slice A3 (exD 0).st.length c3, .int .i64 (exD 0).ph, .int .i64 (exD 0).ap, .bool (exD 0).fa, .bool (exD 0).og, .bool (exD 0).cm, .slice none 0 0] 30) = w4 at *
  generalize w3.heap.size = q at *
  go_upto_region 4 with (fail)
  have HK5 := Aside0.mk (stayA20 (heap_alloc_new w4 (.cells #[.int .i64 2, .int .i64 1, .int .i64 5, .int .i64 3, .int .i64 3, .int .i64 6, .int .i64 4, .int .i64 4] 3)) (.cells #[.int .u64 1, .int .u64 2, .int .u64 0, .int .u64 1, .int .u64 2, .int .u64 0, .int .u64 1, .int .u64 2] 22))
  have hg5 := heap_alloc_new (w4.alloc (.cells #[.int .i64 2, .int .i64 1, .int .i64 5, .int .i64 3, .int .i64 3, .int .i64 6, .int .i64 4, .int .i64 4] 3)) (.cells #[.int .u64 1, .int .u64 2, .int .u64 0, .int .u64 1, .int .u64 2, .int .u64 0, .int .u64 1, .int .u64 2] 22)
  rw [World.size_alloc] at hg5
  have HG5 := Aside0.mk hg5
  have HD5 := Aside0.mk (HD4.out.below (((Below.refl w4.heap.size w4).alloc (Nat.le_refl _) (.cells #[.int .i64 2, .int .i64 1, .int .i64 5, .int .i64 3, .int .i64 3, .int .i64 6, .int .i64 4, .int .i64 4] 3)).alloc (by simp) (.cells #[.int .u64 1, .int .u64 2, .int .u64 0, .int .u64 1, .int .u64 2, .int .u64 0, .int .u64 1, .int .u64 2] 22)))
  have HB5 := Aside0.mk ((HB4.out.alloc HB4.out.size (.cells #[.int .i64 2, .int .i64 1, .int .i64 5, .int .i64 3, .int .i64 3, .int .i64 6, .int .i64 4, .int .i64 4] 3)).alloc (by have := HB4.out.size; simp; omega) (.cells #[.int .u64 1, .int .u64 2, .int .u64 0, .int .u64 1, .int .u64 2, .int .u64 0, .int .u64 1, .int .u64 2] 22))
  have hlt4 := HD4.out.lt
  change Code.wp _ _ _ _ ((w4.alloc (.cells #[.int .i64 2, .int .i64 1, .int .i64 5, .int .i64 3, .int .i64 3, .int .i64 6, .int .i64 4, .int .i64 4] 3)).alloc (.cells #[.int .u64 1, .int .u64 2, .int .u64 0, .int .u64 1, .int .u64 2, .int .u64 0, .int .u64 1, .int .u64 2] 22))
  generalize (w4.alloc (.cells #[.int .i64 2, .int .i64 1, .int .i64 5, .int .i64 3, .int .i64 3, .int .i64 6, .int .i64 4, .int .i64 4] 3)).alloc (.cells #[.int .u64 1, .int .u64 2, .int .u64 0, .int .u64 1, .int .u64 2, .int .u64 0, .int .u64 1, .int .u64 2] 22) = w5 at *
  clear hg5 HD4 HB4 HO3 HB3 HC2 HB2
  go_wp2
  go_loopg [5] 8 (fun gg s5 wr => ∃ (jj : Nat) (A' : Option Addr) (c' : Nat) (B' : Option Addr) (e' : Nat), jj ≤ 8 ∧ 8 - jj ≤ gg ∧ s5 = .int .i64 jj ∧ Aside0 (DrvAt w3 wr q (exD jj) A' c' B' e') ∧ Aside0 (wr.heap[w4.heap.size]? = some (.cells #[.int .i64 2, .int .i64 1, .int .i64 5, .int .i64 3, .int .i64 3, .int .i64 6, .int .i64 4, .int .i64 4] 3 (0, 0))) ∧ Aside0 (wr.heap[w4.heap.size + 1]? = some (.cells #[.int .u64 1, .int .u64 2, .int .u64 0, .int .u64 1, .int .u64 2, .int .u64 0, .int .u64 1, .int .u64 2] 22 (0, 0))) ∧ Aside0 (Below w.heap.size w wr))
  case atStart => exact ⟨0, A3, c3, none, 0, by omega, by omega, rfl, HD5, HK5, HG5, HB5⟩
  case round =>
    clear HD5 HK5 HG5 HB5
    obtain ⟨jj, A', c', B', e', hjj, hgk, rfl, HD, HK, HG, HB⟩ := hrel
    have hok := ex_ok jj hjj
    have HNX := Aside0.mk (HD.out.next hok wr (Below.refl _ _))
    unfold NextPost at HNX
    obtain ⟨hd0, hd1, hd2, hd3, hd4, hd5, hd6, hd7, hd8⟩ := cellsB9 HD.out.cells
    by_cases hlt : jj < 8
    · have hltz : (jj : Int) < 8 := by omega
      have hjz : (0 : Int) ≤ (jj : Int) := by omega
      obtain ⟨hn1, hn2, hn3⟩ := ex_next ⟨jj, hlt⟩
      dsimp only at hn1 hn2 hn3
      have HHR := Aside0.mk (fun (W : World) (h : Below wr.heap.size wr W) => HD.out.hear hok 0 ⟨#[]⟩ 0 false true W h)
      have HEX : Aside0 (exD (jj + 1) = hearV (exD jj) 0 ⟨#[]⟩ 0 false true) := ⟨rfl⟩
      rw [← HEX.out] at HHR
      have HST := Aside0.mk (show (exD (jj + 1)).st = (exD jj).st by rw [ex_st, ex_st])
      generalize nextV (exD jj) = nv at *
      obtain ⟨ng, ⟨nk, n1, n2, nkey, npu, ncm, npa⟩, nis⟩ := nv
      unfold oagg at HNX
      dsimp only at *
      subst hn1 hn2 hn3
      clear HEX
      go_upto_region 8 with (go_at_call 10; refine (HNX.out).mono ?_; rintro e w6 ⟨vp, vq, rfl, hp6, hq6, hb6⟩; obtain ⟨Ap, cp, rfl, _, hCp⟩ := Sl.of_R hp6; obtain ⟨Aq, cq, rfl, _, hCq⟩ := Sl.of_R hq6; clear hCp hCq hp6 hq6; have HB6 := Aside0.mk hb6; clear hb6)
      have HK6 := Aside0.mk (stayA20 (stay20 HB6.out HK.out) (.cells #[.int .i64 (exK jj), .int .u64 n1, .int .u64 n2, .string nkey, .slice Ap npu.length cp, .bool ncm, .slice Aq npa.length cq] 38))
      have HG6 := Aside0.mk (stayA20 (stay20 HB6.out HG.out) (.cells #[.int .i64 (exK jj), .int .u64 n1, .int .u64 n2, .string nkey, .slice Ap npu.length cp, .bool ncm, .slice Aq npa.length cq] 38))
      have HO6 := Aside0.mk (heap_alloc_new w6 (.cells #[.int .i64 (exK jj), .int .u64 n1, .int .u64 n2, .string nkey, .slice Ap npu.length cp, .bool ncm, .slice Aq npa.length cq] 38))
      have HB7 := Aside0.mk (HB6.out.alloc HB6.out.size (.cells #[.int .i64 (exK jj), .int .u64 n1, .int .u64 n2, .string nkey, .slice Ap npu.length cp, .bool ncm, .slice Aq npa.length cq] 38))
      change Code.wp _ _ _ _ (w6.alloc (.cells #[.int .i64 (exK jj), .int .u64 n1, .int .u64 n2, .string nkey, .slice Ap npu.length cp, .bool ncm, .slice Aq npa.length cq] 38))
      generalize w6.alloc (.cells #[.int .i64 (exK jj), .int .u64 n1, .int .u64 n2, .string nkey, .slice Ap npu.length cp, .bool ncm, .slice Aq npa.length cq] 38) = w7 at *
      clear hd0 hd1 hd2 hd3 hd4 hd5 hd6 hd7 hd8
      have hk := cell_row HK6.out jj
      have hgx := cell_row HG6.out jj
      rw [exK_row ⟨jj, hlt⟩] at hk
      rw [exG_row ⟨jj, hlt⟩] at hgx
      dsimp only at hk hgx
      obtain ⟨hx0, hx1, hx2, hx3, hx4, hx5, hx6⟩ := cellsB7 HO6.out
      generalize exK jj = ek at *
      generalize exG jj = eg at *
      go_quiet (fail)
      have HB8 := Aside0.mk (HB7.out.trans (pw_below_drewN (Below.refl w7.heap.size w7) nq |>.mono HB7.out.size))
      generalize World.drewN w7 nq = w8 at *
      clear hk hgx hx0 hx1 hx2 hx3 hx4 hx5 hx6
      have HD8 := Aside0.mk (HD.out.below HB8.out)
      have HC8 := Aside0.mk (HHR.out w8 HB8.out)
      obtain ⟨hd0, hd1, hd2, hd3, hd4, hd5, hd6, hd7, hd8⟩ := cellsB9 HD8.out.cells
      go_wp2_with (go_at_call 14; refine (HC8.out).mono ?_; rintro e w9 ⟨B2, e2, rfl, hb9, ho9⟩; have HB9 := Aside0.mk (HB8.out.trans (hb9.mono HB8.out.size)); have HO9 := Aside0.mk ho9; clear ho9 hb9 hd0 hd1 hd2 hd3 hd4 hd5 hd6 hd7 hd8; obtain ⟨hd0, hd1, hd2, hd3, hd4, hd5, hd6, hd7, hd8⟩ := cellsB9 (HD.out.below HB9.out).cells; obtain ⟨hf0, hf1, hf2, hf3, hf4, hf5, hf6, hf7, hf8⟩ := frozB9 (HD.out.below HB9.out).cells)
      go_roundg (8 - (jj + 1))
      case measure => omega
      case rel => exact ⟨jj + 1, A', c', B2, e2, by omega, by omega, by go_num, ⟨HD.out.put HST.out HB9.out HO9.out⟩, ⟨putB9_other (b := w4.heap.size) (g := q) (by omega) (stay20 HB9.out HK.out) _ _ _ _ _ _ _ _ _⟩, ⟨putB9_other (b := w4.heap.size + 1) (g := q) (by omega) (stay20 HB9.out HG.out) _ _ _ _ _ _ _ _ _⟩, ⟨putB9_below (HB.out.trans (HB9.out.mono HB.out.size)) hq _ _ _ _ _ _ _ _ _⟩⟩
    · have hltz : ¬ (jj : Int) < 8 := by omega
      have hj8 : jj = 8 := by omega
      subst hj8
      obtain ⟨hn1, hn2, hn3⟩ := ex_end
      generalize nextV (exD 8) = nv at *
      obtain ⟨ng, ⟨nk, n1, n2, nkey, npu, ncm, npa⟩, nis⟩ := nv
      unfold oagg at HNX
      dsimp only at *
      subst hn1
      have HE2 := Aside0.mk hn2
      have HE3 := Aside0.mk hn3
      clear hn2 hn3
      go_upto_region 12 with (go_at_call 10; refine (HNX.out).mono ?_; rintro e w6 ⟨vp, vq, rfl, hp6, hq6, hb6⟩; obtain ⟨Ap, cp, rfl, _, hCp⟩ := Sl.of_R hp6; obtain ⟨Aq, cq, rfl, _, hCq⟩ := Sl.of_R hq6; clear hCp hCq hp6 hq6; have HB6 := Aside0.mk hb6; clear hb6)
      have HB7 := Aside0.mk (HB6.out.alloc HB6.out.size (.cells #[.int .i64 nk, .int .u64 n1, .int .u64 n2, .string nkey, .slice Ap npu.length cp, .bool ncm, .slice Aq npa.length cq] 38))
      have hc := (HD.out.below HB7.out).cells
      rw [HE2.out, HE3.out] at hc
      change Code.wp _ _ _ _ (w6.alloc (.cells #[.int .i64 nk, .int .u64 n1, .int .u64 n2, .string nkey, .slice Ap npu.length cp, .bool ncm, .slice Aq npa.length cq] 38))
      generalize w6.alloc (.cells #[.int .i64 nk, .int .u64 n1, .int .u64 n2, .string nkey, .slice Ap npu.length cp, .bool ncm, .slice Aq npa.length cq] 38) = w7 at *
      clear hd0 hd1 hd2 hd3 hd4 hd5 hd6 hd7 hd8
      obtain ⟨hd0, hd1, hd2, hd3, hd4, hd5, hd6, hd7, hd8⟩ := cellsB9 hc
      go_wp2
      go_ret
      exact ⟨rfl, HB.out.trans (HB7.out.mono HB.out.size)⟩
end Go.Proofs.Ytkennobdoldlkaa.PAll
end
