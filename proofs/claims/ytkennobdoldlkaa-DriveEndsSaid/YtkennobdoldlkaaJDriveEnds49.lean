/- Joined texts of the claim DriveEnds (part 49): contracts of functions and plain laws. -/
import Derived.Test.YtkennobdoldlkaaJDriveEnds47
section
/- Plain laws of drives: what a commit is asked for, when a drive ends. -/
namespace Go.Proofs.Ytkennobdoldlkaa.PAll
open Go.RowKit Go.Proofs.YtkennobdoldlkaaW.PrintWords Go.Proofs.Ytkennobdoldlkaa
set_option linter.unusedVariables false
set_option linter.unusedSimpArgs false
/-- What the law has counted beside a drive. -/
structure CI (ta ti : Int) (st : List S53) (d : Drv) (fa sa cm : Bool) (k : Nat) : Prop where
  hta : d.ta = ta
  hti : d.ti = ti
  hog : d.og = false
  hfa : fa = d.fa
  hsa : sa = decide (4 ≤ d.ph)
  hcm : cm = d.cm
  hk : d.fa = false → (d.ph = 0 → (k : Int) = d.ap) ∧ (d.ph = 1 → k = st.length) ∧ (d.ph = 2 → (k : Int) = st.length + 1 + d.ap) ∧ (d.ph = 3 → k = st.length + 1 + (partsV st).length)
  hkb : k ≤ 40
section
variable {ta ti : Int} {st : List S53} (hm : mayV ta ti st = true) {d : Drv} (h : DI st d) {fa sa cm : Bool} {k : Nat} (c : CI ta ti st d fa sa cm k)
end
/-! ### How far a drive is from its end. -/
def potV (st : List S53) (d : Drv) : Int := if d.ph = 0 then st.length - d.ap + 2 + 2 * (partsV st).length else if d.ph = 1 then 2 + 2 * (partsV st).length else if d.ph = 2 then (partsV st).length - d.ap + 1 + (partsV st).length else if d.ph = 3 then 1 + (partsV st).length else if d.ph = 4 then (partsV st).length - d.ap else 0
theorem pot_nonneg {ta ti : Int} {st : List S53} (hm : mayV ta ti st = true) {d : Drv} (h : DI st d) : 0 ≤ potV st d ∧ potV st d ≤ 40 ∧ (¬ d.ph = 5 → 1 ≤ potV st d) := by
  obtain ⟨m1, m2, m3, m4⟩ := may_facts hm
  obtain ⟨h1, h2, h3, hc⟩ := h
  unfold potV
  rcases hc with ⟨e, f, hs, a⟩ | ⟨e, f, _⟩ | ⟨e, f, a⟩ | ⟨e, _⟩ | ⟨e, a⟩ | e
  · rw [if_pos e]; omega
  · rw [if_neg (by omega), if_pos e]; omega
  · rw [if_neg (by omega), if_neg (by omega), if_pos e]; omega
  · rw [if_neg (by omega), if_neg (by omega), if_neg (by omega), if_pos e]; omega
  · rw [if_neg (by omega), if_neg (by omega), if_neg (by omega), if_neg (by omega), if_pos e]; omega
  · rw [if_neg (by omega), if_neg (by omega), if_neg (by omega), if_neg (by omega), if_neg (by omega)]; omega
theorem pot_step {ta ti : Int} {st : List S53} (hm : mayV ta ti st = true) {d : Drv} (h : DI st d) (hp : ¬ d.ph = 5) (er : Int) (va : ByteArray) (ve : Int) (fo co : Bool) :
    d.ph ≤ (hearV d er va ve fo co).ph ∧ potV st (hearV d er va ve fo co) ≤ potV st d ∧ (¬ er = 11 → potV st (hearV d er va ve fo co) + 1 ≤ potV st d) := by
  obtain ⟨m1, m2, m3, m4⟩ := may_facts hm
  have hc := hear_cases hm h er va ve fo co
  obtain ⟨h1, h2, h3, hh⟩ := h
  rcases hc with ⟨p, q, e⟩ | ⟨p, q, hl, e⟩ | ⟨p, q, hl, e⟩ | ⟨p, q, _, e⟩ | ⟨p, q, e⟩ | ⟨p, q, e⟩ | ⟨p, q, e⟩ | ⟨p, q, e⟩ | ⟨p, e⟩ | ⟨p, e⟩ | ⟨p, e⟩
  · rw [e]; exact ⟨Int.le_refl _, Int.le_refl _, fun h => absurd q h⟩
  · rw [e]; unfold potV; dsimp only; rw [if_pos p, if_pos p]; omega
  · obtain ⟨_, _, _, a⟩ : d.ph = 0 ∧ d.fa = false ∧ (d.sw.length : Int) = d.ap ∧ d.ap < (st.length : Int) := by rcases hh with h | h | h | h | h | h <;> first | exact h | omega
    rw [e]; unfold potV; dsimp only; rw [if_pos p, if_neg (by decide), if_pos rfl]; omega
  · obtain ⟨_, _, _, a⟩ : d.ph = 0 ∧ d.fa = false ∧ (d.sw.length : Int) = d.ap ∧ d.ap < (st.length : Int) := by rcases hh with h | h | h | h | h | h <;> first | exact h | omega
    rw [e]; unfold potV; dsimp only; rw [if_pos p, if_neg (by decide), if_neg (by decide), if_neg (by decide), if_pos rfl]; omega
  · rw [e]; unfold potV; dsimp only; rw [if_neg (by decide), if_neg (by decide), if_pos rfl, if_neg (by omega), if_pos p]; omega
  · rw [e]; unfold potV; dsimp only; rw [if_neg (by decide), if_neg (by decide), if_neg (by decide), if_pos rfl, if_neg (by omega), if_pos p]; omega
  · obtain ⟨_, hf, a⟩ : d.ph = 2 ∧ d.fa = false ∧ d.ap < ((partsV st).length : Int) := by rcases hh with h | h | h | h | h | h <;> first | exact h | omega
    obtain ⟨_, ho⟩ := onV_di hm h1 h2 h3 a 3 (Or.inl ⟨rfl, p, hf⟩)
    rw [e]
    rcases ho with ⟨hl, e2⟩ | ⟨hl, e2⟩ <;> rw [e2] <;> unfold potV <;> dsimp only
    · rw [if_neg (by omega), if_neg (by omega), if_pos p, if_neg (by omega), if_neg (by omega), if_pos p]; omega
    · rw [if_neg (by decide), if_neg (by decide), if_neg (by decide), if_pos rfl, if_neg (by omega), if_neg (by omega), if_pos p]; omega
  · obtain ⟨_, hf, a⟩ : d.ph = 2 ∧ d.fa = false ∧ d.ap < ((partsV st).length : Int) := by rcases hh with h | h | h | h | h | h <;> first | exact h | omega
    rw [e]; unfold potV; dsimp only; rw [if_neg (by decide), if_neg (by decide), if_neg (by decide), if_pos rfl, if_neg (by omega), if_neg (by omega), if_pos p]; omega
  · rw [e]; unfold potV; dsimp only; rw [if_neg (by decide), if_neg (by decide), if_neg (by decide), if_neg (by decide), if_pos rfl, if_neg (by omega), if_neg (by omega), if_neg (by omega), if_pos p]; omega
  · obtain ⟨_, a⟩ : d.ph = 4 ∧ d.ap < ((partsV st).length : Int) := by rcases hh with h | h | h | h | h | h <;> first | exact h | omega
    obtain ⟨_, ho⟩ := onV_di hm h1 h2 h3 a 5 (Or.inr ⟨rfl, p⟩)
    rw [e]
    rcases ho with ⟨hl, e2⟩ | ⟨hl, e2⟩ <;> rw [e2] <;> unfold potV <;> dsimp only
    · rw [if_neg (by omega), if_neg (by omega), if_neg (by omega), if_neg (by omega), if_pos p, if_neg (by omega), if_neg (by omega), if_neg (by omega), if_neg (by omega), if_pos p]; omega
    · rw [if_neg (by decide), if_neg (by decide), if_neg (by decide), if_neg (by decide), if_neg (by decide), if_neg (by omega), if_neg (by omega), if_neg (by omega), if_neg (by omega), if_pos p]; omega
  · exact absurd p hp
end Go.Proofs.Ytkennobdoldlkaa.PAll
end
