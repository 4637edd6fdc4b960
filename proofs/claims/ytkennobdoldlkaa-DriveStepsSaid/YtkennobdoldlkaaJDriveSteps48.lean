/- Joined texts of the claim DriveSteps (part 48): contracts of functions and plain laws. -/
import Derived.Test.YtkennobdoldlkaaJDriveSteps46
import Derived.Test.YtkennobdoldlkaaJDriveSteps47
set_option linter.unusedVariables false
set_option linter.unusedSimpArgs false
section
namespace Go.Proofs.Ytkennobdoldlkaa.PAll
open Go.RowKit Go.Proofs.YtkennobdoldlkaaW.PrintWords Go.Proofs.Ytkennobdoldlkaa
def ntup (n : Int × Ord × Bool) : Int × Int × Int × Int × ByteArray × (List S74) × Bool × List Int × Bool := (n.1, n.2.1.kind, n.2.1.ta, n.2.1.ti, n.2.1.key, n.2.1.puts, n.2.1.commit, n.2.1.parts, n.2.2)
theorem next_no {d : Drv} {g : Int} {o : Ord} (h : qz28 d = (g, o, false)) : nextV d = (0, zOrd, false) := by unfold nextV; rw [h]; rfl
theorem next_yes {d : Drv} {g : Int} {o : Ord} (h : qz28 d = (g, o, true)) : nextV d = (g, { o with ta := d.ta, ti := d.ti }, true) := by unfold nextV; rw [h]; rfl
theorem refNext_j1 (d : Drv) (hl : d.st.length ≤ 3000000000000) : Ev (fun q => ferruleref20_Next.j1 q (qz20 d.st) (decide (0 ≤ d.ap ∧ d.ap < (d.st.length : Int))) (decide (0 ≤ d.ap ∧ d.ap < ((qz20 d.st).length : Int))) d.ta d.ti d.st d.ph d.ap d.fa d.og d.cm d.sw d.ta d.ti) (ntup (nextV d)) := by
  by_cases h0 : d.ph = 0
  · by_cases hin : 0 ≤ d.ap ∧ d.ap < (d.st.length : Int)
    · obtain ⟨n, hn⟩ : ∃ n : Nat, d.ap = (n : Int) := ⟨d.ap.toNat, by omega⟩
      have hlt : n < d.st.length := by omega
      have ha : qz28 d = ((d.st[n]!).f0, ⟨if (d.st[n]!).f3 = true then 2 else 1, 0, 0, (d.st[n]!).f1, [], false, []⟩, true) := by
        unfold qz28
        rw [if_pos h0, if_neg (by omega), hn, Int.toNat_natCast]
      rw [next_yes ha]
      refine Ev.step (f := fun _ => some (ntup ((d.st[n]!).f0, ⟨if (d.st[n]!).f3 = true then 2 else 1, d.ta, d.ti, (d.st[n]!).f1, [], false, []⟩, true))) (fun q => ?_) (Ev.now _)
      simp only [ferruleref20_Next.j1]
      rw [if_pos h0, if_pos (decide_eq_true hin), if_pos hin.1, if_pos hin.2, hn, rd_stepP d.st n hlt]
      unfold ntup
      cases (d.st[n]!).f3 <;> rfl
    · have ha : qz28 d = (0, zOrd, false) := by
        unfold qz28
        rw [if_pos h0, if_pos (by omega)]
      rw [next_no ha]
      refine Ev.step (f := fun _ => some (ntup (0, zOrd, false))) (fun q => ?_) (Ev.now _)
      simp only [ferruleref20_Next.j1]
      rw [if_pos h0, if_neg (by rw [decide_eq_false hin]; simp)]
      rfl
  · by_cases h1 : d.ph = 1
    · have ha : qz28 d = (0, ⟨5, 0, 0, ⟨#[]⟩, [], false, qz20 d.st⟩, true) := by
        unfold qz28
        rw [if_neg h0, if_pos h1]
      rw [next_yes ha]
      refine Ev.step (f := fun _ => some (ntup (0, ⟨5, d.ta, d.ti, ⟨#[]⟩, [], false, qz20 d.st⟩, true))) (fun q => ?_) (Ev.now _)
      simp only [ferruleref20_Next.j1]
      rw [if_neg h0, if_pos h1]
      rfl
    · have hpin : ∀ h : 0 ≤ d.ap ∧ d.ap < ((qz20 d.st).length : Int), partV d.st d.ap = ((qz20 d.st)[d.ap.toNat]!, true) := fun h => by unfold partV; rw [if_neg (by omega)]
      have hpout : ∀ h : ¬ (0 ≤ d.ap ∧ d.ap < ((qz20 d.st).length : Int)), partV d.st d.ap = (0, false) := fun h => by unfold partV; rw [if_pos (by omega)]
      by_cases h2 : d.ph = 2
      · by_cases hin : 0 ≤ d.ap ∧ d.ap < ((qz20 d.st).length : Int)
        · obtain ⟨n, hn⟩ : ∃ n : Nat, d.ap = (n : Int) := ⟨d.ap.toNat, by omega⟩
          have hlt : n < (qz20 d.st).length := by omega
          have ha : qz28 d = ((qz20 d.st)[n]!, ⟨3, 0, 0, ⟨#[]⟩, putsV d.st (qz20 d.st)[n]!, false, []⟩, true) := by
            unfold qz28
            rw [if_neg h0, if_neg h1, if_pos h2, hpin hin, hn, Int.toNat_natCast]
          rw [next_yes ha]
          refine Ev.step (f := fun q => (ferruleref20_Puts.f q d.ta d.ti d.st (qz20 d.st)[n]!).bind fun t => some (ntup ((qz20 d.st)[n]!, ⟨3, d.ta, d.ti, ⟨#[]⟩, t, false, []⟩, true))) (fun q => ?_) (Ev.bind (refPuts_ev d.ta d.ti d.st _ hl) (Ev.now _))
          simp only [ferruleref20_Next.j1]
          rw [if_neg h0, if_neg h1, if_pos h2, if_pos (decide_eq_true hin), if_pos hin.1, if_pos hin.2, hn, rd_intP _ n hlt]
          rfl
        · have ha : qz28 d = (0, ⟨3, 0, 0, ⟨#[]⟩, putsV d.st 0, false, []⟩, false) := by
            unfold qz28
            rw [if_neg h0, if_neg h1, if_pos h2, hpout hin]
          rw [next_no ha]
          refine Ev.step (f := fun _ => some (ntup (0, zOrd, false))) (fun q => ?_) (Ev.now _)
          simp only [ferruleref20_Next.j1]
          rw [if_neg h0, if_neg h1, if_pos h2, if_neg (by rw [decide_eq_false hin]; simp)]
          rfl
      · by_cases h3 : d.ph = 3
        · cases ho : d.og with
          | true =>
            have ha : qz28 d = (0, ⟨7, 0, 0, ⟨#[]⟩, [], false, []⟩, true) := by
              unfold qz28
              rw [if_neg h0, if_neg h1, if_neg h2, if_pos h3, if_pos ho]
            rw [next_yes ha]
            refine Ev.step (f := fun _ => some (ntup (0, ⟨7, d.ta, d.ti, ⟨#[]⟩, [], false, []⟩, true))) (fun q => ?_) (Ev.now _)
            simp only [ferruleref20_Next.j1]
            rw [if_neg h0, if_neg h1, if_neg h2, if_pos h3, if_pos trivial]
            rfl
          | false =>
            have ha : qz28 d = (0, ⟨6, 0, 0, ⟨#[]⟩, [], !d.fa, []⟩, true) := by
              unfold qz28
              rw [if_neg h0, if_neg h1, if_neg h2, if_pos h3, if_neg (by rw [ho]; simp)]
            rw [next_yes ha]
            refine Ev.step (f := fun _ => some (ntup (0, ⟨6, d.ta, d.ti, ⟨#[]⟩, [], !d.fa, []⟩, true))) (fun q => ?_) (Ev.now _)
            simp only [ferruleref20_Next.j1]
            rw [if_neg h0, if_neg h1, if_neg h2, if_pos h3, if_neg (by decide)]
            rfl
        · by_cases h4 : d.ph = 4
          · by_cases hin : 0 ≤ d.ap ∧ d.ap < ((qz20 d.st).length : Int)
            · obtain ⟨n, hn⟩ : ∃ n : Nat, d.ap = (n : Int) := ⟨d.ap.toNat, by omega⟩
              have hlt : n < (qz20 d.st).length := by omega
              have ha : qz28 d = ((qz20 d.st)[n]!, ⟨4, 0, 0, ⟨#[]⟩, [], d.cm, []⟩, true) := by
                unfold qz28
                rw [if_neg h0, if_neg h1, if_neg h2, if_neg h3, if_pos h4, hpin hin, hn, Int.toNat_natCast]
              rw [next_yes ha]
              refine Ev.step (f := fun _ => some (ntup ((qz20 d.st)[n]!, ⟨4, d.ta, d.ti, ⟨#[]⟩, [], d.cm, []⟩, true))) (fun q => ?_) (Ev.now _)
              simp only [ferruleref20_Next.j1]
              rw [if_neg h0, if_neg h1, if_neg h2, if_neg h3, if_pos h4, if_pos (decide_eq_true hin), if_pos hin.1, if_pos hin.2, hn, rd_intP _ n hlt]
              rfl
            · have ha : qz28 d = (0, ⟨4, 0, 0, ⟨#[]⟩, [], d.cm, []⟩, false) := by
                unfold qz28
                rw [if_neg h0, if_neg h1, if_neg h2, if_neg h3, if_pos h4, hpout hin]
              rw [next_no ha]
              refine Ev.step (f := fun _ => some (ntup (0, zOrd, false))) (fun q => ?_) (Ev.now _)
              simp only [ferruleref20_Next.j1]
              rw [if_neg h0, if_neg h1, if_neg h2, if_neg h3, if_pos h4, if_neg (by rw [decide_eq_false hin]; simp)]
              rfl
          · have ha : qz28 d = (0, zOrd, false) := by
              unfold qz28
              rw [if_neg h0, if_neg h1, if_neg h2, if_neg h3, if_neg h4]
            rw [next_no ha]
            refine Ev.step (f := fun _ => some (ntup (0, zOrd, false))) (fun q => ?_) (Ev.now _)
            simp only [ferruleref20_Next.j1]
            rw [if_neg h0, if_neg h1, if_neg h2, if_neg h3, if_neg h4]
            rfl
theorem refNext_ev (d : Drv) (hl : d.st.length ≤ 3000000000000) : Ev (fun q => ferruleref20_Next.f q d.ta d.ti d.st d.ph d.ap d.fa d.og d.cm d.sw) (ntup (nextV d)) := by
  unfold ferruleref20_Next.f
  refine Ev.bind (refParts_ev d.ta d.ti d.st hl) ?_
  have h := refNext_j1 d hl
  by_cases c : d.ap ≥ 0
  · refine Ev.congr (fun q => if_pos c) ?_
    refine Ev.step (fun q => ?_) h
    simp only [ferruleref20_Next.j0]
    rw [if_pos c]
    have e1 : decide (d.ap < (d.st.length : Int)) = decide (0 ≤ d.ap ∧ d.ap < (d.st.length : Int)) := by congr 1; rw [eq_iff_iff]; omega
    have e2 : decide (d.ap < ((qz20 d.st).length : Int)) = decide (0 ≤ d.ap ∧ d.ap < ((qz20 d.st).length : Int)) := by congr 1; rw [eq_iff_iff]; omega
    rw [e1, e2]
  · refine Ev.congr (fun q => if_neg c) ?_
    refine Ev.step (fun q => ?_) h
    simp only [ferruleref20_Next.j0]
    rw [if_neg c, decide_eq_false (by omega), decide_eq_false (by omega)]
def NRet (d : Drv) (w : World) (e : Ending) (w' : World) : Prop := ∃ A c B e9, e = .returned (.tuple #[.int .u64 (nextV d).1, oagg (nextV d).2.1 (.slice A (nextV d).2.1.puts.length c) (.slice B (nextV d).2.1.parts.length e9), .bool (nextV d).2.2]) ∧ (nextV d).2.1.puts.length ≤ c ∧ Kd.C k74 w' A (nextV d).2.1.puts.length (nextV d).2.1.puts ∧ (nextV d).2.1.parts.length ≤ e9 ∧ Kd.C (Kd.int .u64) w' B (nextV d).2.1.parts.length (nextV d).2.1.parts ∧ Below w.heap.size w w'
theorem NRet.of {d : Drv} {w : World} {e : Ending} {w' : World} (h : qz40 d w e w') : NRet d w e w' := by
  obtain ⟨vp, vq, rfl, hp, hq, hb⟩ := h
  obtain ⟨A, c, rfl, hc, hC⟩ := Sl.of_R hp
  obtain ⟨B, e9, rfl, he, hD⟩ := Sl.of_R hq
  exact ⟨A, c, B, e9, rfl, hc, hC, he, hD, hb⟩
theorem qz50 (ta ti : Int) (A : Option Addr) (c : Nat) (st : List S53) (ph ap : Int) (fa og cm : Bool) (B : Option Addr) (e9 : Nat) (sw : List S51) (w : World) (hr : Kd.C k53 w A st.length st) (hc : st.length ≤ c) (hq : Kd.C k51 w B sw.length sw) (hqc : sw.length ≤ e9) (hl : st.length ≤ 3000000000000) (hg : ∀ x ∈ st, 0 ≤ x.f0 ∧ x.f0 ≤ 18446744073709551615) :
    Calls Try.prog 11 #[.agg #[.int .u64 ta, .int .u64 ti, .slice A st.length c, .int .i64 ph, .int .i64 ap, .bool fa, .bool og, .bool cm, .slice B sw.length e9]] w (qz40 ⟨ta, ti, st, ph, ap, fa, og, cm, sw⟩ w) := by
  obtain ⟨q, hq'⟩ := (refNext_ev ⟨ta, ti, st, ph, ap, fa, og, cm, sw⟩ hl).rounds
  exact (ferruleref20_Next.calls q ta ti A c st ph ap fa og cm B e9 sw _ _ _ _ _ _ _ _ _ w hr hc hq hqc hq').mono (fun e w' h => h)
end Go.Proofs.Ytkennobdoldlkaa.PAll
end
