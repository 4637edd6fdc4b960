/- Joined texts of the claim DriveCommits (part 35): contracts of functions and plain laws. -/
import Derived.Test.YtkennobdoldlkaaJDriveCommits34
section
/- rows.Fits, walked. -/
namespace Go.Proofs.Ytkennobdoldlkaa.PAll
open Go.RowKit Go.WideMaps Go.Maps Go.Proofs.YtkennobdoldlkaaW.PrintWords Go.Proofs.Ytkennobdoldlkaa
set_option linter.unusedVariables false
theorem fitsGo_step (l : List S74) (j : Nat) (hj : j < l.length) : fitsGo (l.drop j) (l.take j) = if badPut (l[j]!) || hasKey (l.take j) (l[j]!).f0 then 1 else fitsGo (l.drop (j + 1)) (l.take (j + 1)) := by
  rw [List.drop_eq_getElem_cons hj, fitsGo, List.take_succ_eq_append_getElem hj, getElem!_pos l j hj]
theorem cell_at {W : World} {b i : Nat} {cs : Array Value} {t : TypeId} {v : Value} (h : W.heap[b]? = some (.cells cs t)) (hv : cs[i]? = some v) : W.cell? ⟨b, i, none⟩ = some v := by
  simp [World.cell?, h, hv]
theorem key_ok (s : ByteArray) (hs : s.size ≤ 16) : keyOf Try.prog 9 (.string s) = some (keyLit s) := by
  have := keyOf_string_mk (P := Try.prog) Try.underlying9 (s := s) (by unfold maxLen; omega)
  rw [this]; unfold keyLit; rw [ByteArray.toList_eq]
theorem named_val (s : ByteArray) : rows_named.f s = some (decide (1 ≤ s.size) && decide (s.size ≤ 16)) := by
  unfold rows_named.f
  by_cases h : (s.size : Int) ≥ 1
  · rw [if_pos h, decide_eq_true (show 1 ≤ s.size by omega)]
    simp; omega
  · rw [if_neg h, decide_eq_false (show ¬ 1 ≤ s.size by omega)]
    rfl
set_option maxRecDepth 100000 in
set_option maxHeartbeats 4000000 in
theorem rows_Fits.calls (A0 : Option Addr) (c0 : Nat) (l0 : List S74) (r : Int) (w : World) (hr0 : Kd.C k74 w A0 l0.length l0) (hc0 : l0.length ≤ c0) (h : rows_Fits.f l0 = some r) :
    Calls Try.prog 43 #[.slice A0 l0.length c0] w fun e w' => e = .returned (.int .i64 r) ∧ Below w.heap.size w w' := by
  obtain rfl := Option.some.inj h
  have HR := Aside0.mk hr0
  clear h hr0
  have hmm := @run_makeMap Try.prog
  by_cases hbig : 8 < l0.length
  · have hv : fitsV l0 = 4 := by unfold fitsV; rw [if_pos hbig]
    rw [hv]
    have hbigz : (8 : Int) < (l0.length : Int) := by omega
    go_enter Try.func43, Try.ntmps43
    go_wp2
    go_ret
    exact ⟨rfl, Below.refl _ _⟩
  · have hv : fitsV l0 = fitsGo (l0.drop 0) (l0.take 0) := by unfold fitsV; rw [if_neg hbig, List.drop_zero, List.take_zero]
    rw [hv]
    have hbigz : ¬ (8 : Int) < (l0.length : Int) := by omega
    generalize hr : fitsGo (l0.drop 0) (l0.take 0) = r
    go_enter Try.func43, Try.ntmps43
    go_wp2
    go_loopw [12] (fun i wr => ∃ j : Nat, j ≤ l0.length ∧ i = .int .i64 j ∧ Aside0 (fitsGo (l0.drop j) (l0.take j) = r) ∧ Aside0 (wr.ownsMap Try.prog 9 (plainElem Try.prog 4) w.heap.size j (hadD (l0.take j))) ∧ Aside0 (Below w.heap.size w wr)) (fun i _ => l0.length - (intOf i).toNat)
    case atStart => exact ⟨0, Nat.zero_le _, rfl, ⟨hr⟩, ⟨World.ownsMap_made _ _ _ _⟩, ⟨(Below.refl _ _).alloc (Nat.le_refl _) _⟩⟩
    case round =>
      obtain ⟨j, hj, rfl, HF, HM, HB⟩ := hrel
      by_cases hlt : j < l0.length
      · have hltz : (j : Int) < (l0.length : Int) := by omega
        obtain ⟨b, o, rfl, hrow⟩ := C_row (Kd.C_below HR.out HB.out) (by decide) (by omega)
        obtain ⟨cs, hcs, hK, hrg⟩ := hrow j hlt
        obtain rfl := flat74.openK _ _ _ hK
        have hc0_ : wr.cell? ⟨b, o + j * 3, none⟩ = some (.string (l0[j]!).f0) := hrg 0 _ rfl
        have hc1_ : wr.cell? ⟨b, o + j * 3 + 1, none⟩ = some (.string (l0[j]!).f1) := hrg 1 _ rfl
        have hc2_ : wr.cell? ⟨b, o + j * 3 + 2, none⟩ = some (.bool (l0[j]!).f2) := hrg 2 _ rfl
        have HS := Aside0.mk (fitsGo_step l0 j hlt)
        have HT : Aside0 (hadD (l0.take (j + 1)) = (hadD (l0.take j)).put (keyLit (l0[j]!).f0) (.lit (.bool true))) := ⟨by rw [List.take_succ_eq_append_getElem hlt, hadD_snoc, getElem!_pos l0 j hlt]⟩
        clear hrow hrg hK hcs HR
        generalize l0[j]! = x at *
        have HN := Aside0.mk (named_val x.f0)
        obtain ⟨nb, hnb⟩ : ∃ nb, nb = (decide (1 ≤ x.f0.size) && decide (x.f0.size ≤ 16)) := ⟨_, rfl⟩
        rw [← hnb] at HN
        have HNB := Aside0.mk hnb
        clear hnb
        have hr1 (hb : (badPut x || hasKey (l0.take j) x.f0) = true) : r = 1 := by rw [← HF.out, HS.out, if_pos hb]
        cases nb with
        | false =>
          have hb : (badPut x || hasKey (l0.take j) x.f0) = true := by unfold badPut; rw [← HNB.out]; rfl
          obtain rfl := hr1 hb
          go_wp2_with (go_at_call 54; refine (rows_named.calls _ _ _ HN.out).mono ?_; rintro e w1 ⟨rfl, hd⟩; have hb1 := hd.below; clear hd)
          go_ret
          exact ⟨rfl, (HB.out.alloc HB.out.size _).trans (hb1.mono (by simp; have := HB.out.size; omega))⟩
        | true =>
          have h16 : x.f0.size ≤ 16 := by
            have := HNB.out.symm
            rw [Bool.and_eq_true] at this
            exact of_decide_eq_true this.2
          have hbad : badPut x = true ↔ ((32 : Int) < x.f1.size ∨ (x.f2 = true ∧ ¬ x.f1.toList = [])) := by
            have e32 : ((32 : Int) < (x.f1.size : Int)) = (32 < x.f1.size) := propext (by omega)
            unfold badPut
            rw [← HNB.out, e32, Bool.or_eq_true, Bool.or_eq_true, Bool.and_eq_true, decide_eq_true_eq]
            simp
          have HX := Aside0.mk ((MapKept.heap_alloc wr (.cells #[.string x.f0, .string x.f1, .bool x.f2] 74)).1)
          go_wp2_with (first
            | (go_at_call 54; refine (rows_named.calls _ _ _ HN.out).mono ?_; rintro e w1 ⟨rfl, hd⟩; have hb1 := hd.below; clear hd; have hM1 := ownsMap_below (World.ownsMap.alloc HM.out _) hb1 (by simp; have := HM.out.lt; omega); have hlk := had_lookup hM1 x.f0 h16; have hbx := (hb1.block wr.heap.size (by simp)).trans HX.out; have hx0 : w1.cell? ⟨wr.heap.size, 0, none⟩ = some (.string x.f0) := cell_at hbx rfl; have hx1 : w1.cell? ⟨wr.heap.size, 1, none⟩ = some (.string x.f1) := cell_at hbx rfl; have hx2 : w1.cell? ⟨wr.heap.size, 2, none⟩ = some (.bool x.f2) := cell_at hbx rfl; have HB1 := Aside0.mk ((HB.out.alloc HB.out.size (.cells #[.string x.f0, .string x.f1, .bool x.f2] 74)).trans (hb1.mono (by simp; have := HB.out.size; omega))); have HM1 := Aside0.mk hM1; clear hM1 hbx hb1)
            | (at_mapUpdate; refine wpList_mapUpdate_own _ rfl _ _ _ 89 rfl 9 4 (string_keyed Try.underlying9) Try.underlying89 _ w.heap.size j (hadD (l0.take j)) rfl HM1.out (by unfold maxLen; omega) _ _ (keyLit x.f0) rfl rfl (key_ok x.f0 h16) (.lit (.bool true)) [] (plainElem_bool Try.underlying4 true) ?_; intro w2 hM2 hg2; have HM2 := Aside0.mk hM2; have HG2 := Aside0.mk hg2; clear hM2 hg2))
          all_goals first
            | (have e : r = 1 := hr1 (by rw [Bool.or_eq_true, hbad]; clear HN HNB HX hlk hx0 hx1 hx2 HB1 HM1 HF HM HB HS HT hmm; grind)
               subst e
               go_ret
               exact ⟨rfl, HB1.out⟩)
            | (have e : ¬ (badPut x || hasKey (l0.take j) x.f0) = true := by rw [Bool.or_eq_true, hbad]; clear HN HNB HX hlk hx0 hx1 hx2 HB1 HM1 HM2 HG2 HF HM HB HS HT hmm; grind
               exact ⟨⟨j + 1, by omega, by simp, ⟨by rw [← HF.out, HS.out, if_neg e]⟩, ⟨by rw [HT.out]; exact HM2.out⟩, ⟨HB1.out.grown HG2.out HB1.out.size (fun k e => by cases e; exact Nat.le_refl _)⟩⟩, by simp [intOf]; omega⟩)
      · obtain rfl : j = l0.length := by omega
        go_wp2
        go_ret
        have hf := HF.out
        rw [List.drop_length] at hf
        have h0 : (0 : Int) = r := hf
        subst h0
        exact ⟨rfl, HB.out⟩
end Go.Proofs.Ytkennobdoldlkaa.PAll
end
