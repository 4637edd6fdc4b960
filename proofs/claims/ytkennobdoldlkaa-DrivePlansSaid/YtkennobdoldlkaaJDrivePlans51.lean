/- Joined texts of the claim DrivePlans (part 51): contracts of functions and plain laws. -/
import Derived.Test.YtkennobdoldlkaaJDrivePlans14
import Derived.Test.YtkennobdoldlkaaJDrivePlans39
import Derived.Test.YtkennobdoldlkaaJDrivePlans44
import Derived.Test.YtkennobdoldlkaaJDrivePlans47
import Derived.Test.YtkennobdoldlkaaJDrivePlans48
import Derived.Test.YtkennobdoldlkaaJDrivePlans49
import Derived.Test.YtkennobdoldlkaaJDrivePlans50
section
/- The document's Begin and Orphan, as calls; and what is the same as itself. -/
namespace Go.Proofs.Ytkennobdoldlkaa.PAll
open Go.RowKit Go.Proofs.YtkennobdoldlkaaW.PrintWords Go.Proofs.Ytkennobdoldlkaa
set_option linter.unusedVariables false
set_option linter.unusedSimpArgs false
theorem heapStep : Kd.Heap k53 := by
  unfold k53
  exact Kd.heap_iso _ (Kd.heap_pair (Kd.heap_int _) (Kd.heap_pair Kd.heap_string (Kd.heap_pair Kd.heap_string (Kd.heap_pair Kd.heap_bool Kd.heap_bool))))
/-- What Begin and Orphan hand back: a drive and a number. -/
def DRet (r : Drv × Int) (w : World) (e : Ending) (w' : World) : Prop := ∃ A c B e9, e = .returned (.tuple #[dargs r.1 A c B e9, .int .i64 r.2]) ∧ DRows w' r.1 A c B e9 ∧ Below w.heap.size w w'
theorem DRet.of_b {r : Drv × Int} {w : World} {e : Ending} {w' : World} (h : BPost r w e w') : DRet r w e w' := by
  obtain ⟨vs, rfl, hs, ho, hb⟩ := h
  obtain ⟨A', c', e, hc, hC⟩ := flat53.ofsl ho.sl
  subst e
  refine ⟨A', c', none, 0, ?_, ⟨hC, hc, ?_, ?_⟩, hb⟩
  · unfold dagg dargs; rw [hs]; rfl
  · rw [hs]; exact Kd.C_nil _ _
  · rw [hs]; exact Nat.zero_le _
theorem begin_st (ta ti : Int) (st : List S53) (hl : st.length ≤ 3000000000000) : (beginV ta ti st).1.st.length ≤ 9223372036854775800 ∧ (beginV ta ti st).1.sw.length ≤ 9223372036854775800 := by
  unfold beginV
  split
  · exact ⟨by show st.length ≤ _; omega, Nat.zero_le _⟩
  · exact ⟨Nat.zero_le _, Nat.zero_le _⟩
theorem orphan_st (ta ti : Int) (st : List S53) (hl : st.length ≤ 3000000000000) : (orphanV ta ti st).1.st.length ≤ 9223372036854775800 ∧ (orphanV ta ti st).1.sw.length ≤ 9223372036854775800 := by
  unfold orphanV
  split
  · exact ⟨by show st.length ≤ _; omega, Nat.zero_le _⟩
  · exact ⟨Nat.zero_le _, Nat.zero_le _⟩
theorem refBegin_calls (ta ti : Int) (A : Option Addr) (c : Nat) (st : List S53) (w : World) (hr : Kd.C k53 w A st.length st) (hc : st.length ≤ c) (hl : st.length ≤ 3000000000000) :
    Calls Try.prog 23 #[.agg #[.int .u64 ta, .int .u64 ti, .slice A st.length c]] w (DRet (beginV ta ti st) w) := by
  have hv := Kd.V_mk (e := 53) (base := w.heap.size) hc (Kd.C_F heapStep hr)
  have hev : Ev (fun q => ferruleref20_Begin.f q ta ti st) ((beginV ta ti st).1.ta, (beginV ta ti st).1.ti, (beginV ta ti st).1.st, (beginV ta ti st).1.ph, (beginV ta ti st).1.ap, (beginV ta ti st).1.fa, (beginV ta ti st).1.og, (beginV ta ti st).1.cm, (beginV ta ti st).1.sw, (beginV ta ti st).2) := by
    unfold ferruleref20_Begin.f beginV
    refine Ev.bind (refMay_ev ta ti st hl) ?_
    cases mayV ta ti st with
    | false => exact Ev.congr (fun q => if_neg (by simp)) (Ev.now _)
    | true => exact Ev.congr (fun q => if_pos rfl) (Ev.now _)
  obtain ⟨q, hq⟩ := hev.rounds
  refine (ferruleref20_Begin.calls q ta ti _ A c st _ _ _ _ _ _ _ _ _ _ w hv hq).mono ?_
  rintro e w' ⟨v2, v8, rfl, hV, hR, hb⟩
  obtain ⟨A2, c2, rfl⟩ := Kd.V_slice hV
  obtain ⟨B2, e2, rfl, he2, hC2⟩ := Sl.of_R hR
  obtain ⟨_, hc2, hC⟩ := Kd.V_reads' hV
  exact ⟨A2, c2, B2, e2, rfl, ⟨hC, hc2, hC2, he2⟩, hb⟩
theorem refOrphan_calls (ta ti : Int) (A : Option Addr) (c : Nat) (st : List S53) (w : World) (hr : Kd.C k53 w A st.length st) (hc : st.length ≤ c) (hl : st.length ≤ 3000000000000) :
    Calls Try.prog 25 #[.agg #[.int .u64 ta, .int .u64 ti, .slice A st.length c]] w (DRet (orphanV ta ti st) w) := by
  have hv := Kd.V_mk (e := 53) (base := w.heap.size) hc (Kd.C_F heapStep hr)
  have hev : Ev (fun q => ferruleref20_Orphan.f q ta ti st) ((orphanV ta ti st).1.ta, (orphanV ta ti st).1.ti, (orphanV ta ti st).1.st, (orphanV ta ti st).1.ph, (orphanV ta ti st).1.ap, (orphanV ta ti st).1.fa, (orphanV ta ti st).1.og, (orphanV ta ti st).1.cm, (orphanV ta ti st).1.sw, (orphanV ta ti st).2) := by
    unfold ferruleref20_Orphan.f orphanV
    refine Ev.bind (refMay_ev ta ti st hl) ?_
    cases mayV ta ti st with
    | false => exact Ev.congr (fun q => if_neg (by simp)) (Ev.now _)
    | true => exact Ev.congr (fun q => if_pos rfl) (Ev.now _)
  obtain ⟨q, hq⟩ := hev.rounds
  refine (ferruleref20_Orphan.calls q ta ti _ A c st _ _ _ _ _ _ _ _ _ _ w hv hq).mono ?_
  rintro e w' ⟨v2, v8, rfl, hV, hR, hb⟩
  obtain ⟨A2, c2, rfl⟩ := Kd.V_slice hV
  obtain ⟨B2, e2, rfl, he2, hC2⟩ := Sl.of_R hR
  obtain ⟨_, hc2, hC⟩ := Kd.V_reads' hV
  exact ⟨A2, c2, B2, e2, rfl, ⟨hC, hc2, hC2, he2⟩, hb⟩
theorem refMay_calls (ta ti : Int) (A : Option Addr) (c : Nat) (st : List S53) (w : World) (hr : Kd.C k53 w A st.length st) (hc : st.length ≤ c) (hl : st.length ≤ 3000000000000) :
    Calls Try.prog 27 #[.agg #[.int .u64 ta, .int .u64 ti, .slice A st.length c]] w fun e w' => e = .returned (.bool (mayV ta ti st)) ∧ Below w.heap.size w w' := by
  obtain ⟨q, hq⟩ := (refMay_ev ta ti st hl).rounds
  exact ferruleref20_May.calls q ta ti A c st _ w hr hc hq
theorem refParts_calls (ta ti : Int) (A : Option Addr) (c : Nat) (st : List S53) (w : World) (hr : Kd.C k53 w A st.length st) (hc : st.length ≤ c) (hl : st.length ≤ 3000000000000) :
    Calls Try.prog 19 #[.agg #[.int .u64 ta, .int .u64 ti, .slice A st.length c]] w fun e w' => ∃ B d, e = .returned (.slice B (partsV st).length d) ∧ (partsV st).length ≤ d ∧ Kd.C (Kd.int .u64) w' B (partsV st).length (partsV st) ∧ Below w.heap.size w w' := by
  obtain ⟨q, hq⟩ := (refParts_ev ta ti st hl).rounds
  refine (ferruleref20_Parts.calls q ta ti A c st _ w hr hc hq).mono ?_
  rintro e w' ⟨v, rfl, hR, hb⟩
  obtain ⟨B, d, rfl, hd, hC⟩ := Sl.of_R hR
  exact ⟨B, d, rfl, hd, hC, hb⟩
theorem refPuts_calls (ta ti : Int) (A : Option Addr) (c : Nat) (st : List S53) (g : Int) (w : World) (hr : Kd.C k53 w A st.length st) (hc : st.length ≤ c) (hl : st.length ≤ 3000000000000) :
    Calls Try.prog 22 #[.agg #[.int .u64 ta, .int .u64 ti, .slice A st.length c], .int .u64 g] w fun e w' => ∃ B d, e = .returned (.slice B (putsV st g).length d) ∧ (putsV st g).length ≤ d ∧ Kd.C k74 w' B (putsV st g).length (putsV st g) ∧ Below w.heap.size w w' := by
  obtain ⟨q, hq⟩ := (refPuts_ev ta ti st g hl).rounds
  refine (ferruleref20_Puts.calls q ta ti A c st g _ w hr hc hq).mono ?_
  rintro e w' ⟨v, rfl, hR, hb⟩
  obtain ⟨B, d, rfl, hd, hC⟩ := Sl.of_R hR
  exact ⟨B, d, rfl, hd, hC, hb⟩
/-! ### The same as itself. -/
theorem nums_self (a : List Int) (hl : a.length ≤ 9223372036854775800) : ∀ (d j : Nat), d = a.length - j → j ≤ a.length → Ev (fun q => ferruleref01_Same.l0 q a a (j : Int)) true := by
  intro d
  induction d with
  | zero =>
    intro j hd hj
    exact Ev.step (f := fun _ => some true) (fun k => by simp only [ferruleref01_Same.l0]; rw [if_neg (show ¬ (j : Int) < a.length by omega)]) (Ev.now true)
  | succ d ih =>
    intro j hd hj
    have hlt : j < a.length := by omega
    refine Ev.step (fun k => ?_) (ih (j + 1) (by omega) (by omega))
    simp only [ferruleref01_Same.l0]
    rw [if_pos (show (j : Int) < a.length by omega), if_pos (show (0 : Int) ≤ j by omega), if_pos trivial, wrapUpP j (by omega), if_pos (show (j : Int) < a.length by omega)]
theorem puts_self (a : List S74) (hl : a.length ≤ 9223372036854775800) : ∀ (d j : Nat), d = a.length - j → j ≤ a.length → Ev (fun q => ferruleref13_SamePuts.l0 q a a (j : Int)) true := by
  intro d
  induction d with
  | zero =>
    intro j hd hj
    exact Ev.step (f := fun _ => some true) (fun k => by simp only [ferruleref13_SamePuts.l0]; rw [if_neg (show ¬ (j : Int) < a.length by omega)]) (Ev.now true)
  | succ d ih =>
    intro j hd hj
    have hlt : j < a.length := by omega
    refine Ev.step (fun k => ?_) (ih (j + 1) (by omega) (by omega))
    simp only [ferruleref13_SamePuts.l0]
    rw [if_pos (show (j : Int) < a.length by omega), if_pos (show (0 : Int) ≤ j by omega), if_pos (show (j : Int) < a.length by omega), if_neg (by simp), wrapUpP j (by omega)]
theorem nums_self_ev (a : List Int) (hl : a.length ≤ 9223372036854775800) : Ev (fun q => ferruleref01_Same.f q a a) true := by
  unfold ferruleref01_Same.f
  exact Ev.congr (fun q => if_pos rfl) (nums_self a hl _ 0 rfl (Nat.zero_le _))
theorem puts_self_ev (a : List S74) (hl : a.length ≤ 9223372036854775800) : Ev (fun q => ferruleref13_SamePuts.f q a a) true := by
  unfold ferruleref13_SamePuts.f
  exact Ev.congr (fun q => if_pos rfl) (puts_self a hl _ 0 rfl (Nat.zero_le _))
theorem nums_same {w : World} {A B : Option Addr} {c d : Nat} {l : List Int} (hl : l.length ≤ 9223372036854775800) (h1 : Kd.C (Kd.int .u64) w A l.length l) (h2 : l.length ≤ c) (h3 : Kd.C (Kd.int .u64) w B l.length l) (h4 : l.length ≤ d) :
    Calls Try.prog 18 #[.slice A l.length c, .slice B l.length d] w fun e w' => e = .returned (.bool true) ∧ Below w.heap.size w w' := by
  obtain ⟨q, hq⟩ := (nums_self_ev l hl).rounds
  exact (ferruleref01_Same.calls q A c l B d l true w h1 h2 h3 h4 hq).mono fun e w' h => ⟨h.1, h.2.below⟩
theorem puts_same {w : World} {A B : Option Addr} {c d : Nat} {l : List S74} (hl : l.length ≤ 9223372036854775800) (h1 : Kd.C k74 w A l.length l) (h2 : l.length ≤ c) (h3 : Kd.C k74 w B l.length l) (h4 : l.length ≤ d) :
    Calls Try.prog 20 #[.slice A l.length c, .slice B l.length d] w fun e w' => e = .returned (.bool true) ∧ Below w.heap.size w w' := by
  obtain ⟨q, hq⟩ := (puts_self_ev l hl).rounds
  exact (ferruleref13_SamePuts.calls q A c l B d l true w h1 h2 h3 h4 hq).mono fun e w' h => ⟨h.1, h.2.below⟩
theorem parts_len20 (st : List S53) (hl : st.length ≤ 3000000000000) : (partsV st).length ≤ 9223372036854775800 := by
  have := partsV_len st st.length (Nat.le_refl _)
  rw [List.take_length] at this
  omega
theorem puts_len20 (st : List S53) (g : Int) (hl : st.length ≤ 3000000000000) : (putsV st g).length ≤ 9223372036854775800 := by
  have := putsV_len20 st g st.length (Nat.le_refl _)
  rw [List.take_length] at this
  omega
end Go.Proofs.Ytkennobdoldlkaa.PAll
end
