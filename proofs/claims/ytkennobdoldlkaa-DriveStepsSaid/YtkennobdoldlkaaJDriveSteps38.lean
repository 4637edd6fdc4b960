/- Joined texts of the claim DriveSteps (part 38): contracts of functions and plain laws. -/
import Derived.Test.YtkennobdoldlkaaJDriveSteps15
import Derived.BigQuiet
import Derived.BigRegion
import Derived.Deep.QuietTactic
import Derived.Test.YtkennobdoldlkaaJDriveSteps37
set_option linter.unusedVariables false
set_option linter.unusedSimpArgs false
section
namespace Go.Proofs.Ytkennobdoldlkaa.PAll
open Go.RowKit Go.Proofs.YtkennobdoldlkaaW.PrintWords Go.Proofs.YtkennobdoldlkaaW.PrintLast Go.Proofs.YtkennobdoldlkaaW.PrintMore
attribute [local go_sem] qz51 qz52 max_two min_two qz45 qz46 qz53 qz54
def ferrulelaw20_two.f  : Option (Int × Int × (List (S53))) := some (1, 0, (([(⟨1, (⟨#[97]⟩ : ByteArray), (⟨#[49]⟩ : ByteArray), true, false⟩ : S53), (⟨2, (⟨#[98]⟩ : ByteArray), (⟨#[]⟩ : ByteArray), false, false⟩ : S53)] : List (S53))))
set_option maxHeartbeats 8000000 in
set_option maxRecDepth 100000 in
theorem ferrulelaw20_two.calls  (r1 : Int) (r2 : Int) (r3 : List (S53)) (w : World) (h : ferrulelaw20_two.f  = some (r1, r2, r3)) :
    Calls Try.prog 29 #[] w fun e w' => ∃ v2_ : Value, e = .returned (.agg #[.int .u64 r1, .int .u64 r2, v2_]) ∧ Kd.R k53 53 w' w.heap.size (fun _ => True) v2_ r3 ∧ Below w.heap.size w w' := by
  have hu27 := Try.underlying27
  have hu24 := Try.underlying24
  have hu53 := Try.underlying53
  have HB := qza.mk (Below.refl w.heap.size w)
  have H : (some (1, 0, (([(⟨1, (⟨#[97]⟩ : ByteArray), (⟨#[49]⟩ : ByteArray), true, false⟩ : S53), (⟨2, (⟨#[98]⟩ : ByteArray), (⟨#[]⟩ : ByteArray), false, false⟩ : S53)] : List (S53))))) = some (r1, r2, r3) := h
  clear h
  obtain ⟨y444, hy444⟩ : ∃ y_ : List (S53), y_ = (([(⟨1, (⟨#[97]⟩ : ByteArray), (⟨#[49]⟩ : ByteArray), true, false⟩ : S53), (⟨2, (⟨#[98]⟩ : ByteArray), (⟨#[]⟩ : ByteArray), false, false⟩ : S53)] : List (S53))) := ⟨_, rfl⟩
  replace H : (some (1, 0, y444)) = some (r1, r2, r3) := by first | (rw [hy444]; with_reducible exact H) | (have H2_ := (Option.bind_some _ _).symm.trans H; rw [hy444]; with_reducible exact H2_) | (have H2_ := (Option.bind_some _ _).symm.trans H; with_reducible exact H2_) | with_reducible exact H | (rw [hy444]; exact H) | exact H
  have Ny444 := qza.mk hy444
  clear hy444
  simp only [Option.some.injEq, Prod.mk.injEq] at H
  obtain ⟨rfl, rfl, rfl⟩ := H
  go_enter Try.func29, Try.ntmps29
  go_wp2_with (first | ((with_reducible refine qz31 (N := 0) rfl ?_); refine qz32 ?hg (N := 0) ?hd (cs := #[.int .u64 0, .int .u64 0, .slice none 0 0]) (t := 27) ?hr ?_; (case hd => rfl); (case hg => rfl); (case hr => first | (go_simp; done) | (go_simp; rfl)); intro gb443 hg w1 hbox hb; have n0_ := qza.mk (qz25 (by repeat (first | (with_reducible first | exact HB.out | apply qz10 | apply qz5 | apply qz9) | exact HB.out)) hb); have n1_ := qza.mk (hbox); have n2_ := qza.mk ((by rw [hg]; exact (qz15 (by repeat (first | (with_reducible first | exact HB.out | apply qz10 | apply qz5 | apply qz9) | exact HB.out))) : w.heap.size ≤ gb443)); have n3_ := qza.mk ((by rw [hg]; exact (qz15 (by repeat (first | (with_reducible first | exact HB.out | apply qz10 | apply qz5 | apply qz9) | exact HB.out))) : w.heap.size ≤ gb443)); clear HB; have HB := n0_; have BK443 := n1_; have GW443 := n2_; have GE443 := n3_; clear n0_ n1_ n2_ n3_; clear hb hbox hg) | ((with_reducible refine qz31 (N := 4) rfl ?_); refine Kd.R_lit k53 _ 53 ?hg (N := 4) ?hd (xs := ([(⟨1, (⟨#[97]⟩ : ByteArray), (⟨#[49]⟩ : ByteArray), true, false⟩ : S53), (⟨2, (⟨#[98]⟩ : ByteArray), (⟨#[]⟩ : ByteArray), false, false⟩ : S53)] : List (S53))) (inner := [.int .u64 1, .string (⟨#[97]⟩ : ByteArray), .string (⟨#[49]⟩ : ByteArray), .bool true, .bool false, .int .u64 2, .string (⟨#[98]⟩ : ByteArray), .string (⟨#[]⟩ : ByteArray), .bool false, .bool false]) (ok := fun _ => True) (okp := fun _ => True) ?hr ?hp (fun _ hk => hk) trivial (Below.refl _ _) (Nat.le_refl _) (by simp) ?_; (case hd => rfl); (case hg => rfl); (case hr => first | (go_simp; done) | (go_simp; rfl)); (case hp => exact (Reps.c5 (show Kd.M k53 _ _ _ (⟨1, (⟨#[97]⟩ : ByteArray), (⟨#[49]⟩ : ByteArray), true, false⟩ : S53) [.int .u64 1, .string (⟨#[97]⟩ : ByteArray), .string (⟨#[49]⟩ : ByteArray), .bool true, .bool false] from (k53_mkM _ _ _ (⟨1, (⟨#[97]⟩ : ByteArray), (⟨#[49]⟩ : ByteArray), true, false⟩ : S53) )) (Reps.c5 (show Kd.M k53 _ _ _ (⟨2, (⟨#[98]⟩ : ByteArray), (⟨#[]⟩ : ByteArray), false, false⟩ : S53) [.int .u64 2, .string (⟨#[98]⟩ : ByteArray), .string (⟨#[]⟩ : ByteArray), .bool false, .bool false] from (k53_mkM _ _ _ (⟨2, (⟨#[98]⟩ : ByteArray), (⟨#[]⟩ : ByteArray), false, false⟩ : S53) )) (Reps.none _ _)))); intro v445 w2 ho3 hb hg_ hnew_; clear hg_ hnew_; (first | rw [← Ny444.out] at ho3 | (simp only [Int.reduceToNat] at ho3; rw [← Ny444.out] at ho3)); have n0_ := qza.mk (Kd.R_lower ho3 (qz15 (by repeat (first | (with_reducible first | exact HB.out | apply qz10 | apply qz5 | apply qz9 | refine qz8 ?_ GE443.out) | exact HB.out)))); have n1_ := qza.mk (qz35 (g := gb443) (o := .cells #[.int .u64 0, .int .u64 0, .slice none 0 0] 27 (0, 0)) (by (with_reducible repeat (first | refine qz3 ?_ _ | refine qz6 ?_ | refine qz4 ?_ _)); exact BK443.out) hb); have n2_ := qza.mk (qz25 (by repeat (first | (with_reducible first | exact HB.out | apply qz10 | apply qz5 | apply qz9 | refine qz8 ?_ GE443.out) | exact HB.out)) hb); clear BK443; clear HB; have HO446 := n0_; have BK443 := n1_; have HB := n2_; clear n0_ n1_ n2_; clear hb ho3; obtain ⟨Ao4, co4, eo4⟩ := Kd.R_slice HO446.out; subst eo4; have hcz5_0 : w2.cell? ⟨gb443, 0, none⟩ = some (.int .u64 0) := (qz1 BK443.out 0).trans rfl; have hcz5_1 : w2.cell? ⟨gb443, 1, none⟩ = some (.int .u64 0) := (qz1 BK443.out 1).trans rfl; have hcz5_2 : w2.cell? ⟨gb443, 2, none⟩ = some (.slice none 0 0) := (qz1 BK443.out 2).trans rfl; have hfz5_0 := qz0 BK443.out 0; have hfz5_1 := qz0 BK443.out 1; have hfz5_2 := qz0 BK443.out 2))
  refine bodyPost_ret (results_cell_row rfl _ _ gb443 27 #[.int .u64 1, .int .u64 0, .slice Ao4 y444.length co4] (0, 0) _ rfl (by (with_reducible repeat (first | refine qz3 ?_ _ | refine qz6 ?_ | refine qz4 ?_ _)); refine qz12 (cs := #[.int .u64 1, .int .u64 0, .slice none 0 0]) ?_ 2 _ rfl; (with_reducible repeat (first | refine qz3 ?_ _ | refine qz6 ?_ | refine qz4 ?_ _)); refine qz12 (cs := #[.int .u64 1, .int .u64 0, .slice none 0 0]) ?_ 1 _ rfl; (with_reducible repeat (first | refine qz3 ?_ _ | refine qz6 ?_ | refine qz4 ?_ _)); refine qz12 (cs := #[.int .u64 0, .int .u64 0, .slice none 0 0]) ?_ 0 _ rfl; (with_reducible repeat (first | refine qz3 ?_ _ | refine qz6 ?_ | refine qz4 ?_ _)); exact BK443.out) Try.underlying27 rfl (by kernel_rfl)) rfl ?_
  exact ⟨_, by first | rfl | (simp [qz21, qz22] <;> rfl) | (simp [*, qz21, qz22] <;> rfl), by (with_reducible repeat (first | apply Kd.R_alloc | apply Kd.R_drewN | apply Kd.R_drew)); exact Kd.R_mono (Kd.R_far (p := ⟨gb443, 2, none⟩) (Kd.R_far (p := ⟨gb443, 1, none⟩) (Kd.R_far (p := ⟨gb443, 0, none⟩) (Kd.R_types HO446.out BK443.out (by decide)) (fun _ hk => hk.2) (.int .u64 1)) (fun _ hk => hk.2) (.int .u64 0)) (fun _ hk => hk.2) (.slice Ao4 y444.length co4)) (fun _ hk => trivial), by repeat (first | (with_reducible first | exact HB.out | apply qz10 | apply qz5 | apply qz9 | refine qz8 ?_ GE443.out) | exact HB.out)⟩
end Go.Proofs.Ytkennobdoldlkaa.PAll
end
section
namespace Go.Proofs.Ytkennobdoldlkaa.PAll
open Go.RowKit Go.Proofs.YtkennobdoldlkaaW.PrintWords Go.Proofs.Ytkennobdoldlkaa
theorem exK_row : ∀ j : Fin 8, (([.int .i64 2, .int .i64 1, .int .i64 5, .int .i64 3, .int .i64 3, .int .i64 6, .int .i64 4, .int .i64 4] : List Value))[j.1]? = some (.int .i64 (exK j.1)) := by
  intro j
  match j with
  | 0 => rfl
  | 1 => rfl
  | 2 => rfl
  | 3 => rfl
  | 4 => rfl
  | 5 => rfl
  | 6 => rfl
  | 7 => rfl
theorem exG_row : ∀ j : Fin 8, (([.int .u64 1, .int .u64 2, .int .u64 0, .int .u64 1, .int .u64 2, .int .u64 0, .int .u64 1, .int .u64 2] : List Value))[j.1]? = some (.int .u64 (exG j.1)) := by
  intro j
  match j with
  | 0 => rfl
  | 1 => rfl
  | 2 => rfl
  | 3 => rfl
  | 4 => rfl
  | 5 => rfl
  | 6 => rfl
  | 7 => rfl
set_option maxHeartbeats 1000000 in
set_option maxRecDepth 100000 in
theorem shown20 (w : World) : Calls Try.prog 9 #[] w fun e w' => e = .returned (.bool true) ∧ Below w.heap.size w w' := by
  have hok0 := ex_ok 0 (by omega)
  have hl0 : exStp.length ≤ 3000000000000 := hok0.len
  have hg0 : ∀ x ∈ exStp, 0 ≤ x.f0 ∧ x.f0 ≤ 18446744073709551615 := hok0.rng
  go_enter Try.func9, Try.ntmps9
  go_upto_region 2 with (first
    | (go_at_call 29; refine (ferrulelaw20_two.calls 1 0 exStp w rfl).mono ?_; rintro e w2 ⟨v2, rfl, hR2, hb2⟩; obtain ⟨A2, c2, rfl, hc2, hC2⟩ := Sl.of_R hR2; have HC2 := qza.mk hC2; have HB2 := qza.mk hb2; clear hR2 hC2 hb2)
    | (go_at_call 16; refine (begin_calls 1 0 A2 c2 exStp w2 HC2.out hc2 hl0 hg0).mono ?_; rw [ex_begin]; rintro e w3 ⟨v3, rfl, hs3, ho3, hb3⟩; obtain ⟨A3, c3, rfl, hc3⟩ := own_sl20 ho3; have HO3 := qza.mk ho3; have HB3 := qza.mk hb3; unfold dagg; dsimp only; clear ho3 hb3))
  rw [List.length_map] at HO3 ⊢
  have HD4 := qza.mk (DrvAt.made (w0 := w2) (w := w3) (r := exD 0) rfl HO3.out rfl)
  have HB4 := qza.mk ((HB2.out.trans (HB3.out.mono HB2.out.size)).alloc (HB2.out.trans (HB3.out.mono HB2.out.size)).size (.cells #[.int .u64 (exD 0).ta, .int .u64 (exD 0).ti, .slice A3 (exD 0).st.length c3, .int .i64 (exD 0).ph, .int .i64 (exD 0).ap, .bool (exD 0).fa, .bool (exD 0).og, .bool (exD 0).cm, .slice none 0 0] 30))
  have hq : w.heap.size ≤ w3.heap.size := (HB2.out.trans (HB3.out.mono HB2.out.size)).size
  change Code.wp _ _ _ _ (w3.alloc (.cells #[.int .u64 (exD 0).ta, .int .u64 (exD 0).ti, .slice A3 (exD 0).st.length c3, .int .i64 (exD 0).ph, .int .i64 (exD 0).ap, .bool (exD 0).fa, .bool (exD 0).og, .bool (exD 0).cm, .slice none 0 0] 30))
  generalize w3.alloc (.cells #[.int .u64 (exD 0).ta, .int .u64 (exD 0).ti, .slice A3 (exD 0).st.length c3, .int .i64 (exD 0).ph, .int .i64 (exD 0).ap, .bool (exD 0).fa, .bool (exD 0).og, .bool (exD 0).cm, .slice none 0 0] 30) = w4 at *
  generalize w3.heap.size = q at *
  go_upto_region 4 with (fail)
  have HK5 := qza.mk (qz14 (heap_alloc_new w4 (.cells #[.int .i64 2, .int .i64 1, .int .i64 5, .int .i64 3, .int .i64 3, .int .i64 6, .int .i64 4, .int .i64 4] 3)) (.cells #[.int .u64 1, .int .u64 2, .int .u64 0, .int .u64 1, .int .u64 2, .int .u64 0, .int .u64 1, .int .u64 2] 22))
  have hg5 := heap_alloc_new (w4.alloc (.cells #[.int .i64 2, .int .i64 1, .int .i64 5, .int .i64 3, .int .i64 3, .int .i64 6, .int .i64 4, .int .i64 4] 3)) (.cells #[.int .u64 1, .int .u64 2, .int .u64 0, .int .u64 1, .int .u64 2, .int .u64 0, .int .u64 1, .int .u64 2] 22)
  rw [World.size_alloc] at hg5
  have HG5 := qza.mk hg5
  have HD5 := qza.mk (HD4.out.below (((Below.refl w4.heap.size w4).alloc (Nat.le_refl _) (.cells #[.int .i64 2, .int .i64 1, .int .i64 5, .int .i64 3, .int .i64 3, .int .i64 6, .int .i64 4, .int .i64 4] 3)).alloc (by simp) (.cells #[.int .u64 1, .int .u64 2, .int .u64 0, .int .u64 1, .int .u64 2, .int .u64 0, .int .u64 1, .int .u64 2] 22)))
  have HB5 := qza.mk ((HB4.out.alloc HB4.out.size (.cells #[.int .i64 2, .int .i64 1, .int .i64 5, .int .i64 3, .int .i64 3, .int .i64 6, .int .i64 4, .int .i64 4] 3)).alloc (by have := HB4.out.size; simp; omega) (.cells #[.int .u64 1, .int .u64 2, .int .u64 0, .int .u64 1, .int .u64 2, .int .u64 0, .int .u64 1, .int .u64 2] 22))
  have hlt4 := HD4.out.lt
  change Code.wp _ _ _ _ ((w4.alloc (.cells #[.int .i64 2, .int .i64 1, .int .i64 5, .int .i64 3, .int .i64 3, .int .i64 6, .int .i64 4, .int .i64 4] 3)).alloc (.cells #[.int .u64 1, .int .u64 2, .int .u64 0, .int .u64 1, .int .u64 2, .int .u64 0, .int .u64 1, .int .u64 2] 22))
  generalize (w4.alloc (.cells #[.int .i64 2, .int .i64 1, .int .i64 5, .int .i64 3, .int .i64 3, .int .i64 6, .int .i64 4, .int .i64 4] 3)).alloc (.cells #[.int .u64 1, .int .u64 2, .int .u64 0, .int .u64 1, .int .u64 2, .int .u64 0, .int .u64 1, .int .u64 2] 22) = w5 at *
  clear hg5 HD4 HB4 HO3 HB3 HC2 HB2
  go_wp2
  go_loopg [5] 8 (fun gg s5 wr => ∃ (jj : Nat) (A' : Option Addr) (c' : Nat) (B' : Option Addr) (e' : Nat), jj ≤ 8 ∧ 8 - jj ≤ gg ∧ s5 = .int .i64 jj ∧ qza (DrvAt w3 wr q (exD jj) A' c' B' e') ∧ qza (wr.heap[w4.heap.size]? = some (.cells #[.int .i64 2, .int .i64 1, .int .i64 5, .int .i64 3, .int .i64 3, .int .i64 6, .int .i64 4, .int .i64 4] 3 (0, 0))) ∧ qza (wr.heap[w4.heap.size + 1]? = some (.cells #[.int .u64 1, .int .u64 2, .int .u64 0, .int .u64 1, .int .u64 2, .int .u64 0, .int .u64 1, .int .u64 2] 22 (0, 0))) ∧ qza (Below w.heap.size w wr))
  case atStart => exact ⟨0, A3, c3, none, 0, by omega, by omega, rfl, HD5, HK5, HG5, HB5⟩
  case round =>
    clear HD5 HK5 HG5 HB5
    obtain ⟨jj, A', c', B', e', hjj, hgk, rfl, HD, HK, HG, HB⟩ := hrel
    have hok := ex_ok jj hjj
    have HNX := qza.mk (HD.out.next hok wr (Below.refl _ _))
    unfold qz40 at HNX
    obtain ⟨hd0, hd1, hd2, hd3, hd4, hd5, hd6, hd7, hd8⟩ := qz13 HD.out.cells
    by_cases hlt : jj < 8
    · have hltz : (jj : Int) < 8 := by omega
      have hjz : (0 : Int) ≤ (jj : Int) := by omega
      obtain ⟨hn1, hn2, hn3⟩ := ex_next ⟨jj, hlt⟩
      dsimp only at hn1 hn2 hn3
      have HHR := qza.mk (fun (W : World) (h : Below wr.heap.size wr W) => HD.out.hear hok 0 ⟨#[]⟩ 0 false true W h)
      have HEX : qza (exD (jj + 1) = hearV (exD jj) 0 ⟨#[]⟩ 0 false true) := ⟨rfl⟩
      rw [← HEX.out] at HHR
      have HST := qza.mk (show (exD (jj + 1)).st = (exD jj).st by rw [ex_st, ex_st])
      generalize nextV (exD jj) = nv at *
      obtain ⟨ng, ⟨nk, n1, n2, nkey, npu, ncm, npa⟩, nis⟩ := nv
      unfold oagg at HNX
      dsimp only at *
      subst hn1 hn2 hn3
      clear HEX
      go_upto_region 8 with (go_at_call 10; refine (HNX.out).mono ?_; rintro e w6 ⟨vp, vq, rfl, hp6, hq6, hb6⟩; obtain ⟨Ap, cp, rfl, _, hCp⟩ := Sl.of_R hp6; obtain ⟨Aq, cq, rfl, _, hCq⟩ := Sl.of_R hq6; clear hCp hCq hp6 hq6; have HB6 := qza.mk hb6; clear hb6)
      have HK6 := qza.mk (qz14 (qz16 HB6.out HK.out) (.cells #[.int .i64 (exK jj), .int .u64 n1, .int .u64 n2, .string nkey, .slice Ap npu.length cp, .bool ncm, .slice Aq npa.length cq] 38))
      have HG6 := qza.mk (qz14 (qz16 HB6.out HG.out) (.cells #[.int .i64 (exK jj), .int .u64 n1, .int .u64 n2, .string nkey, .slice Ap npu.length cp, .bool ncm, .slice Aq npa.length cq] 38))
      have HO6 := qza.mk (heap_alloc_new w6 (.cells #[.int .i64 (exK jj), .int .u64 n1, .int .u64 n2, .string nkey, .slice Ap npu.length cp, .bool ncm, .slice Aq npa.length cq] 38))
      have HB7 := qza.mk (HB6.out.alloc HB6.out.size (.cells #[.int .i64 (exK jj), .int .u64 n1, .int .u64 n2, .string nkey, .slice Ap npu.length cp, .bool ncm, .slice Aq npa.length cq] 38))
      change Code.wp _ _ _ _ (w6.alloc (.cells #[.int .i64 (exK jj), .int .u64 n1, .int .u64 n2, .string nkey, .slice Ap npu.length cp, .bool ncm, .slice Aq npa.length cq] 38))
      generalize w6.alloc (.cells #[.int .i64 (exK jj), .int .u64 n1, .int .u64 n2, .string nkey, .slice Ap npu.length cp, .bool ncm, .slice Aq npa.length cq] 38) = w7 at *
      clear hd0 hd1 hd2 hd3 hd4 hd5 hd6 hd7 hd8
      have hk := qz30 HK6.out jj
      have hgx := qz30 HG6.out jj
      rw [exK_row ⟨jj, hlt⟩] at hk
      rw [exG_row ⟨jj, hlt⟩] at hgx
      dsimp only at hk hgx
      obtain ⟨hx0, hx1, hx2, hx3, hx4, hx5, hx6⟩ := qz41 HO6.out
      generalize exK jj = ek at *
      generalize exG jj = eg at *
      go_quiet (fail)
      have HB8 := qza.mk (HB7.out.trans (qz5 (Below.refl w7.heap.size w7) nq |>.mono HB7.out.size))
      generalize World.drewN w7 nq = w8 at *
      clear hk hgx hx0 hx1 hx2 hx3 hx4 hx5 hx6
      have HD8 := qza.mk (HD.out.below HB8.out)
      have HC8 := qza.mk (HHR.out w8 HB8.out)
      obtain ⟨hd0, hd1, hd2, hd3, hd4, hd5, hd6, hd7, hd8⟩ := qz13 HD8.out.cells
      go_wp2_with (go_at_call 14; refine (HC8.out).mono ?_; rintro e w9 ⟨B2, e2, rfl, hb9, ho9⟩; have HB9 := qza.mk (HB8.out.trans (hb9.mono HB8.out.size)); have HO9 := qza.mk ho9; clear ho9 hb9 hd0 hd1 hd2 hd3 hd4 hd5 hd6 hd7 hd8; obtain ⟨hd0, hd1, hd2, hd3, hd4, hd5, hd6, hd7, hd8⟩ := qz13 (HD.out.below HB9.out).cells; obtain ⟨hf0, hf1, hf2, hf3, hf4, hf5, hf6, hf7, hf8⟩ := qz17 (HD.out.below HB9.out).cells)
      go_roundg (8 - (jj + 1))
      case measure => omega
      case rel => exact ⟨jj + 1, A', c', B2, e2, by omega, by omega, by go_num, ⟨HD.out.put HST.out HB9.out HO9.out⟩, ⟨putB9_other (b := w4.heap.size) (g := q) (by omega) (qz16 HB9.out HK.out) _ _ _ _ _ _ _ _ _⟩, ⟨putB9_other (b := w4.heap.size + 1) (g := q) (by omega) (qz16 HB9.out HG.out) _ _ _ _ _ _ _ _ _⟩, ⟨qz23 (HB.out.trans (HB9.out.mono HB.out.size)) hq _ _ _ _ _ _ _ _ _⟩⟩
    · have hltz : ¬ (jj : Int) < 8 := by omega
      have hj8 : jj = 8 := by omega
      subst hj8
      obtain ⟨hn1, hn2, hn3⟩ := ex_end
      generalize nextV (exD 8) = nv at *
      obtain ⟨ng, ⟨nk, n1, n2, nkey, npu, ncm, npa⟩, nis⟩ := nv
      unfold oagg at HNX
      dsimp only at *
      subst hn1
      have HE2 := qza.mk hn2
      have HE3 := qza.mk hn3
      clear hn2 hn3
      go_upto_region 12 with (go_at_call 10; refine (HNX.out).mono ?_; rintro e w6 ⟨vp, vq, rfl, hp6, hq6, hb6⟩; obtain ⟨Ap, cp, rfl, _, hCp⟩ := Sl.of_R hp6; obtain ⟨Aq, cq, rfl, _, hCq⟩ := Sl.of_R hq6; clear hCp hCq hp6 hq6; have HB6 := qza.mk hb6; clear hb6)
      have HB7 := qza.mk (HB6.out.alloc HB6.out.size (.cells #[.int .i64 nk, .int .u64 n1, .int .u64 n2, .string nkey, .slice Ap npu.length cp, .bool ncm, .slice Aq npa.length cq] 38))
      have hc := (HD.out.below HB7.out).cells
      rw [HE2.out, HE3.out] at hc
      change Code.wp _ _ _ _ (w6.alloc (.cells #[.int .i64 nk, .int .u64 n1, .int .u64 n2, .string nkey, .slice Ap npu.length cp, .bool ncm, .slice Aq npa.length cq] 38))
      generalize w6.alloc (.cells #[.int .i64 nk, .int .u64 n1, .int .u64 n2, .string nkey, .slice Ap npu.length cp, .bool ncm, .slice Aq npa.length cq] 38) = w7 at *
      clear hd0 hd1 hd2 hd3 hd4 hd5 hd6 hd7 hd8
      obtain ⟨hd0, hd1, hd2, hd3, hd4, hd5, hd6, hd7, hd8⟩ := qz13 hc
      go_wp2
      go_ret
      exact ⟨rfl, HB.out.trans (HB7.out.mono HB.out.size)⟩
theorem partV_in {st : List S53} {ap : Int} (h0 : 0 ≤ ap) (h1 : ap < ((qz20 st).length : Int)) : (partV st ap).2 = true := by unfold partV; rw [if_neg (by omega)]
theorem partV_out {st : List S53} {ap : Int} (h1 : ((qz20 st).length : Int) ≤ ap) : (partV st ap).2 = false := by unfold partV; rw [if_pos (Or.inr h1)]
end Go.Proofs.Ytkennobdoldlkaa.PAll
end
