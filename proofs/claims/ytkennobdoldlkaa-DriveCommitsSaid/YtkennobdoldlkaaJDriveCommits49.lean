/- Joined texts of the claim DriveCommits (part 49): contracts of functions and plain laws. -/
import Derived.Test.YtkennobdoldlkaaJDriveCommits47
section
/- Plain laws of drives: what a commit is asked for, when a drive ends. -/
namespace Go.Proofs.Ytkennobdoldlkaa.PAll
open Go.RowKit Go.Proofs.YtkennobdoldlkaaW.PrintWords Go.Proofs.Ytkennobdoldlkaa
set_option linter.unusedVariables false
set_option linter.unusedSimpArgs false
theorem next_told {d : Drv} (h : (nextV d).2.2 = true) : (nextV d).2.1.ta = d.ta ∧ (nextV d).2.1.ti = d.ti ∧ (nextV d).2.1.kind = (askedV d).2.1.kind ∧ (nextV d).2.1.commit = (askedV d).2.1.commit := by
  unfold nextV at *
  by_cases ha : (askedV d).2.2 = true
  · rw [if_pos ha]; exact ⟨rfl, rfl, rfl, rfl⟩
  · rw [if_neg ha] at h; cases h
/-- What the law has counted beside a drive. -/
structure CI (ta ti : Int) (st : List S53) (d : Drv) (fa sa cm : Bool) (k : Nat) : Prop where
  hta : d.ta = ta
  hti : d.ti = ti
  hog : d.og = false
  hfa : fa = d.fa
  hsa : sa = decide (4 ≤ d.ph)
  hcm : cm = d.cm
  hk : d.fa = false → (d.ph = 0 → (k : Int) = d.ap) ∧ (d.ph = 1 → k = st.length) ∧ (d.ph = 2 → (k : Int) = st.length + 1 + d.ap) ∧ (d.ph = 3 → k = st.length + 1 + (partsV st).length)
  hkb : k ≤ 40
theorem begin_ci (ta ti : Int) (st : List S53) : CI ta ti st ⟨ta, ti, st, 0, 0, false, false, false, []⟩ false false false 0 :=
  ⟨rfl, rfl, rfl, rfl, rfl, rfl, fun _ => ⟨fun _ => rfl, fun hz => absurd (show (0 : Int) = 1 from hz) (by decide), fun hz => absurd (show (0 : Int) = 2 from hz) (by decide), fun hz => absurd (show (0 : Int) = 3 from hz) (by decide)⟩, by omega⟩
theorem ci_over {ta ti : Int} {st : List S53} (hm : mayV ta ti st = true) {d : Drv} (h : DI st d) {fa sa cm : Bool} {k : Nat} (c : CI ta ti st d fa sa cm k) (hp : d.ph = 5) : (nextV d).2.2 = false := by rw [h.is, hp]; rfl
theorem ci_is {ta ti : Int} {st : List S53} (hm : mayV ta ti st = true) {d : Drv} (h : DI st d) {fa sa cm : Bool} {k : Nat} (c : CI ta ti st d fa sa cm k) (hp : ¬ d.ph = 5) : (nextV d).2.2 = true ∧ (nextV d).2.1.ta = ta ∧ (nextV d).2.1.ti = ti := by
  have h1 : (nextV d).2.2 = true := by rw [h.is]; simp [hp]
  obtain ⟨h2, h3, _⟩ := next_told h1
  exact ⟨h1, h2.trans c.hta, h3.trans c.hti⟩
theorem ci_kind3 {ta ti : Int} {st : List S53} (hm : mayV ta ti st = true) {d : Drv} (h : DI st d) {fa sa cm : Bool} {k : Nat} (c : CI ta ti st d fa sa cm k) (hp : d.ph = 3) : (nextV d).2.1.kind = 6 ∧ (nextV d).2.1.commit = !fa ∧ sa = false := by
  obtain ⟨_, _, h4, h5⟩ := next_told (ci_is hm h c (by omega)).1
  have ha : askedV d = (0, ⟨6, 0, 0, ⟨#[]⟩, [], !d.fa, []⟩, true) := by
    unfold askedV; rw [hp, c.hog]; rfl
  rw [ha] at h4 h5
  exact ⟨h4, by rw [h5, c.hfa], by rw [c.hsa, hp]; rfl⟩
theorem ci_kind4 {ta ti : Int} {st : List S53} (hm : mayV ta ti st = true) {d : Drv} (h : DI st d) {fa sa cm : Bool} {k : Nat} (c : CI ta ti st d fa sa cm k) (hp : d.ph = 4) : (nextV d).2.1.kind = 4 ∧ (nextV d).2.1.commit = cm ∧ sa = true := by
  obtain ⟨_, _, h4, h5⟩ := next_told (ci_is hm h c (by omega)).1
  have ha : askedV d = ((partV d.st d.ap).1, ⟨4, 0, 0, ⟨#[]⟩, [], d.cm, []⟩, (partV d.st d.ap).2) := by
    unfold askedV; rw [hp]; rfl
  rw [ha] at h4 h5
  exact ⟨h4, by rw [h5, c.hcm], by rw [c.hsa, hp]; rfl⟩
theorem ci_low {ta ti : Int} {st : List S53} (hm : mayV ta ti st = true) {d : Drv} (h : DI st d) {fa sa cm : Bool} {k : Nat} (c : CI ta ti st d fa sa cm k) (hp : ¬ d.ph = 5) (h3 : ¬ d.ph = 3) (h4 : ¬ d.ph = 4) : (d.ph = 0 ∨ d.ph = 1 ∨ d.ph = 2) ∧ d.fa = false ∧ fa = false ∧ sa = false := by
  have hc := h.hcs
  have : (d.ph = 0 ∨ d.ph = 1 ∨ d.ph = 2) ∧ d.fa = false := by
    rcases hc with ⟨e, f, _⟩ | ⟨e, f, _⟩ | ⟨e, f, _⟩ | ⟨e, _⟩ | ⟨e, _⟩ | e
    · exact ⟨Or.inl e, f⟩
    · exact ⟨Or.inr (Or.inl e), f⟩
    · exact ⟨Or.inr (Or.inr e), f⟩
    · exact absurd e h3
    · exact absurd e h4
    · exact absurd e hp
  refine ⟨this.1, this.2, c.hfa.trans this.2, ?_⟩
  rw [c.hsa]
  exact decide_eq_false (by rcases this.1 with e | e | e <;> omega)
theorem ci_kind0 {ta ti : Int} {st : List S53} (hm : mayV ta ti st = true) {d : Drv} (h : DI st d) {fa sa cm : Bool} {k : Nat} (c : CI ta ti st d fa sa cm k) (hp : d.ph = 0) : 1 ≤ (nextV d).2.1.kind ∧ (nextV d).2.1.kind ≤ 2 := by
  obtain ⟨_, _, h4, _⟩ := next_told (ci_is hm h c (by omega)).1
  obtain ⟨_, a⟩ : d.fa = false ∧ d.ap < (st.length : Int) := by rcases h.hcs with h | h | h | h | h | h <;> first | exact ⟨h.2.1, h.2.2.2⟩ | omega
  have h0 := h.hap
  have h1 := h.hst
  rw [h4]
  unfold askedV
  rw [if_pos hp, if_neg (by rw [h1]; omega)]
  dsimp only
  split <;> omega
theorem ci_kind1 {ta ti : Int} {st : List S53} (hm : mayV ta ti st = true) {d : Drv} (h : DI st d) {fa sa cm : Bool} {k : Nat} (c : CI ta ti st d fa sa cm k) (hp : d.ph = 1) : (nextV d).2.1.kind = 5 := by
  obtain ⟨_, _, h4, _⟩ := next_told (ci_is hm h c (by omega)).1
  rw [h4]
  unfold askedV
  rw [hp]; rfl
theorem ci_kind2 {ta ti : Int} {st : List S53} (hm : mayV ta ti st = true) {d : Drv} (h : DI st d) {fa sa cm : Bool} {k : Nat} (c : CI ta ti st d fa sa cm k) (hp : d.ph = 2) : (nextV d).2.1.kind = 3 := by
  obtain ⟨_, _, h4, _⟩ := next_told (ci_is hm h c (by omega)).1
  rw [h4]
  unfold askedV
  rw [hp]; rfl
theorem ci_kindL {ta ti : Int} {st : List S53} (hm : mayV ta ti st = true) {d : Drv} (h : DI st d) {fa sa cm : Bool} {k : Nat} (c : CI ta ti st d fa sa cm k) (hp : d.ph = 0 ∨ d.ph = 1 ∨ d.ph = 2) : ¬ (nextV d).2.1.kind = 6 ∧ ¬ (nextV d).2.1.kind = 4 ∧ ((nextV d).2.1.kind > 2 ↔ ¬ d.ph = 0) := by
  rcases hp with e | e | e
  · obtain ⟨a, b⟩ := ci_kind0 hm h c e
    exact ⟨by omega, by omega, ⟨fun _ => by omega, fun h => absurd e h⟩⟩
  · have a := ci_kind1 hm h c e
    exact ⟨by omega, by omega, ⟨fun _ => by omega, fun _ => by omega⟩⟩
  · have a := ci_kind2 hm h c e
    exact ⟨by omega, by omega, ⟨fun _ => by omega, fun _ => by omega⟩⟩
theorem ci_asked {ta ti : Int} {st : List S53} (hm : mayV ta ti st = true) {d : Drv} (h : DI st d) {fa sa cm : Bool} {k : Nat} (c : CI ta ti st d fa sa cm k) (hp : d.ph = 3) (hf : fa = false) : k = st.length + 1 + (partsV st).length := (c.hk (by rw [← c.hfa]; exact hf)).2.2.2 hp
theorem ci_ok {ta ti : Int} {st : List S53} (hm : mayV ta ti st = true) {d : Drv} (h : DI st d) {fa sa cm : Bool} {k : Nat} (c : CI ta ti st d fa sa cm k) (hp : d.ph = 0 ∨ d.ph = 1 ∨ d.ph = 2) (er : Int) (va : ByteArray) (ve : Int) (fo co : Bool) (he : er = 0) : CI ta ti st (hearV d er va ve fo co) false false cm (k + 1) := by
  obtain ⟨m1, m2, m3, m4⟩ := may_facts hm
  have hc := hear_cases hm h er va ve fo co
  obtain ⟨_, hf, _, hs⟩ := ci_low hm h c (by rcases hp with e | e | e <;> omega) (by rcases hp with e | e | e <;> omega) (by rcases hp with e | e | e <;> omega)
  obtain ⟨k0, k1, k2, k3⟩ := c.hk hf
  have hh := h.hcs
  rcases hc with ⟨p, q, e⟩ | ⟨p, _, hl, e⟩ | ⟨p, _, hl, e⟩ | ⟨p, q, _, e⟩ | ⟨p, _, e⟩ | ⟨p, q, e⟩ | ⟨p, _, e⟩ | ⟨p, q, e⟩ | ⟨p, e⟩ | ⟨p, e⟩ | ⟨p, e⟩
  · omega
  · have := k0 p
    rw [e]
    exact ⟨c.hta, c.hti, c.hog, hf.symm, (decide_eq_false (by show ¬ 4 ≤ d.ph; omega)).symm, c.hcm, fun _ => ⟨fun _ => by show ((k + 1 : Nat) : Int) = d.ap + 1; omega, fun hz => by have hz' : d.ph = 1 := hz; omega, fun hz => by have hz' : d.ph = 2 := hz; omega, fun hz => by have hz' : d.ph = 3 := hz; omega⟩, by omega⟩
  · have := k0 p
    obtain ⟨_, _, _, a⟩ : d.ph = 0 ∧ d.fa = false ∧ (d.sw.length : Int) = d.ap ∧ d.ap < (st.length : Int) := by rcases hh with h | h | h | h | h | h <;> first | exact h | omega
    rw [e]
    exact ⟨c.hta, c.hti, c.hog, hf.symm, rfl, c.hcm, fun _ => ⟨fun hz => absurd (show (1 : Int) = 0 from hz) (by decide), fun _ => by omega, fun hz => absurd (show (1 : Int) = 2 from hz) (by decide), fun hz => absurd (show (1 : Int) = 3 from hz) (by decide)⟩, by omega⟩
  · exact absurd he q
  · have := k1 p
    rw [e]
    exact ⟨c.hta, c.hti, c.hog, hf.symm, rfl, c.hcm, fun _ => ⟨fun hz => absurd (show (2 : Int) = 0 from hz) (by decide), fun hz => absurd (show (2 : Int) = 1 from hz) (by decide), fun _ => by show ((k + 1 : Nat) : Int) = st.length + 1 + 0; omega, fun hz => absurd (show (2 : Int) = 3 from hz) (by decide)⟩, by omega⟩
  · exact absurd he q
  · have := k2 p
    obtain ⟨_, _, a⟩ : d.ph = 2 ∧ d.fa = false ∧ d.ap < ((partsV st).length : Int) := by rcases hh with h | h | h | h | h | h <;> first | exact h | omega
    obtain ⟨_, ho⟩ := onV_di hm h.hst h.hsw h.hap a 3 (Or.inl ⟨rfl, p, hf⟩)
    rw [e]
    rcases ho with ⟨hl, e2⟩ | ⟨hl, e2⟩ <;> rw [e2]
    · exact ⟨c.hta, c.hti, c.hog, hf.symm, (decide_eq_false (by show ¬ 4 ≤ d.ph; omega)).symm, c.hcm, fun _ => ⟨fun hz => by have hz' : d.ph = 0 := hz; omega, fun hz => by have hz' : d.ph = 1 := hz; omega, fun _ => by show ((k + 1 : Nat) : Int) = st.length + 1 + (d.ap + 1); omega, fun hz => by have hz' : d.ph = 3 := hz; omega⟩, by omega⟩
    · exact ⟨c.hta, c.hti, c.hog, hf.symm, rfl, c.hcm, fun _ => ⟨fun hz => absurd (show (3 : Int) = 0 from hz) (by decide), fun hz => absurd (show (3 : Int) = 1 from hz) (by decide), fun hz => absurd (show (3 : Int) = 2 from hz) (by decide), fun _ => by omega⟩, by omega⟩
  · exact absurd he q
  all_goals omega
theorem ci_bad {ta ti : Int} {st : List S53} (hm : mayV ta ti st = true) {d : Drv} (h : DI st d) {fa sa cm : Bool} {k : Nat} (c : CI ta ti st d fa sa cm k) (hp : d.ph = 0 ∨ d.ph = 1 ∨ d.ph = 2) (er : Int) (va : ByteArray) (ve : Int) (fo co : Bool) (he : ¬ er = 0) (hb : ¬ (d.ph = 0 ∧ er = 11)) : CI ta ti st (hearV d er va ve fo co) true false cm k := by
  have hc := hear_cases hm h er va ve fo co
  have hkb := c.hkb
  have key : hearV d er va ve fo co = { d with ap := 0, ph := 3, fa := true } := by
    rcases hc with ⟨p, q, e⟩ | ⟨p, q, hl, e⟩ | ⟨p, q, hl, e⟩ | ⟨p, q, _, e⟩ | ⟨p, q, e⟩ | ⟨p, q, e⟩ | ⟨p, q, e⟩ | ⟨p, q, e⟩ | ⟨p, e⟩ | ⟨p, e⟩ | ⟨p, e⟩ <;> first | exact e | exact absurd q he | omega | exact absurd ⟨p, q⟩ hb
  rw [key]
  exact ⟨c.hta, c.hti, c.hog, rfl, rfl, c.hcm, (fun hz => absurd (show true = false from hz) (by decide)), hkb⟩
theorem ci_busy {ta ti : Int} {st : List S53} (hm : mayV ta ti st = true) {d : Drv} (h : DI st d) {fa sa cm : Bool} {k : Nat} (c : CI ta ti st d fa sa cm k) (hp : d.ph = 0) (er : Int) (va : ByteArray) (ve : Int) (fo co : Bool) (he : er = 11) : CI ta ti st (hearV d er va ve fo co) false false cm k := by
  obtain ⟨_, hf, hf2, hs⟩ := ci_low hm h c (by omega) (by omega) (by omega)
  have hc := hear_cases hm h er va ve fo co
  have key : hearV d er va ve fo co = d := by
    rcases hc with ⟨p, q, e⟩ | ⟨p, q, hl, e⟩ | ⟨p, q, hl, e⟩ | ⟨p, q, _, e⟩ | ⟨p, q, e⟩ | ⟨p, q, e⟩ | ⟨p, q, e⟩ | ⟨p, q, e⟩ | ⟨p, e⟩ | ⟨p, e⟩ | ⟨p, e⟩ <;> first | exact e | omega
  rw [key, ← hf2]
  have := c
  rw [hs] at this
  rw [hf2] at this ⊢
  exact this
theorem ci_dec {ta ti : Int} {st : List S53} (hm : mayV ta ti st = true) {d : Drv} (h : DI st d) {fa sa cm : Bool} {k : Nat} (c : CI ta ti st d fa sa cm k) (hp : d.ph = 3) (er : Int) (va : ByteArray) (ve : Int) (fo co : Bool) : CI ta ti st (hearV d er va ve fo co) fa true (decide (er = 0) && co) k := by
  have hc := hear_cases hm h er va ve fo co
  have hkb := c.hkb
  have key : hearV d er va ve fo co = { d with ap := 0, ph := 4, cm := decide (er = 0) && co } := by
    rcases hc with ⟨p, q, e⟩ | ⟨p, q, hl, e⟩ | ⟨p, q, hl, e⟩ | ⟨p, q, _, e⟩ | ⟨p, q, e⟩ | ⟨p, q, e⟩ | ⟨p, q, e⟩ | ⟨p, q, e⟩ | ⟨p, e⟩ | ⟨p, e⟩ | ⟨p, e⟩ <;> first | exact e | omega
  rw [key]
  exact ⟨c.hta, c.hti, c.hog, c.hfa, rfl, rfl, fun _ => ⟨fun hz => absurd (show (4 : Int) = 0 from hz) (by decide), fun hz => absurd (show (4 : Int) = 1 from hz) (by decide), fun hz => absurd (show (4 : Int) = 2 from hz) (by decide), fun hz => absurd (show (4 : Int) = 3 from hz) (by decide)⟩, hkb⟩
theorem ci_fin {ta ti : Int} {st : List S53} (hm : mayV ta ti st = true) {d : Drv} (h : DI st d) {fa sa cm : Bool} {k : Nat} (c : CI ta ti st d fa sa cm k) (hp : d.ph = 4) (er : Int) (va : ByteArray) (ve : Int) (fo co : Bool) : CI ta ti st (hearV d er va ve fo co) fa true cm k := by
  have hc := hear_cases hm h er va ve fo co
  have hkb := c.hkb
  have key : hearV d er va ve fo co = onV d 5 := by
    rcases hc with ⟨p, q, e⟩ | ⟨p, q, hl, e⟩ | ⟨p, q, hl, e⟩ | ⟨p, q, _, e⟩ | ⟨p, q, e⟩ | ⟨p, q, e⟩ | ⟨p, q, e⟩ | ⟨p, q, e⟩ | ⟨p, e⟩ | ⟨p, e⟩ | ⟨p, e⟩ <;> first | exact e | omega
  obtain ⟨_, a⟩ : d.ph = 4 ∧ d.ap < ((partsV st).length : Int) := by rcases h.hcs with h | h | h | h | h | h <;> first | exact h | omega
  obtain ⟨_, ho⟩ := onV_di hm h.hst h.hsw h.hap a 5 (Or.inr ⟨rfl, hp⟩)
  rw [key]
  rcases ho with ⟨hl, e2⟩ | ⟨hl, e2⟩ <;> rw [e2]
  · exact ⟨c.hta, c.hti, c.hog, c.hfa, (decide_eq_true (by show 4 ≤ d.ph; omega)).symm, c.hcm, fun _ => ⟨fun hz => by have hz' : d.ph = 0 := hz; omega, fun hz => by have hz' : d.ph = 1 := hz; omega, fun hz => by have hz' : d.ph = 2 := hz; omega, fun hz => by have hz' : d.ph = 3 := hz; omega⟩, hkb⟩
  · exact ⟨c.hta, c.hti, c.hog, c.hfa, rfl, c.hcm, fun _ => ⟨fun hz => absurd (show (5 : Int) = 0 from hz) (by decide), fun hz => absurd (show (5 : Int) = 1 from hz) (by decide), fun hz => absurd (show (5 : Int) = 2 from hz) (by decide), fun hz => absurd (show (5 : Int) = 3 from hz) (by decide)⟩, hkb⟩
/-! ### How far a drive is from its end. -/
end Go.Proofs.Ytkennobdoldlkaa.PAll
end
