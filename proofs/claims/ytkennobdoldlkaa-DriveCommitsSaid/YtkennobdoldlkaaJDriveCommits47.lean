/- Joined texts of the claim DriveCommits (part 47): contracts of functions and plain laws. -/
import Derived.Test.YtkennobdoldlkaaJDriveCommits44
section
/- Plain laws of drives: how a drive goes on. -/
namespace Go.Proofs.Ytkennobdoldlkaa.PAll
open Go.RowKit Go.Proofs.YtkennobdoldlkaaW.PrintWords Go.Proofs.Ytkennobdoldlkaa
set_option linter.unusedVariables false
set_option linter.unusedSimpArgs false
structure DI (st : List S53) (d : Drv) : Prop where
  hst : d.st = st
  hsw : d.sw.length ≤ st.length
  hap : 0 ≤ d.ap
  hcs : (d.ph = 0 ∧ d.fa = false ∧ (d.sw.length : Int) = d.ap ∧ d.ap < (st.length : Int)) ∨ (d.ph = 1 ∧ d.fa = false ∧ d.sw.length = st.length ∧ d.ap = 0) ∨ (d.ph = 2 ∧ d.fa = false ∧ d.ap < ((partsV st).length : Int)) ∨ (d.ph = 3 ∧ d.ap = 0) ∨ (d.ph = 4 ∧ d.ap < ((partsV st).length : Int)) ∨ d.ph = 5
theorem may_facts {ta ti : Int} {st : List S53} (h : mayV ta ti st = true) : 1 ≤ st.length ∧ st.length ≤ 12 ∧ (partsV st).length ≤ 8 ∧ 1 ≤ (partsV st).length := by
  unfold mayV at h
  simp only [Bool.and_eq_true, decide_eq_true_eq] at h
  refine ⟨h.1.1.1.1.1.1, h.1.1.1.1.1.2, h.1.1.1.1.2, ?_⟩
  have h1 := h.1.1.1.1.1.1
  cases st with
  | nil => simp at h1
  | cons x r =>
    have : x.f0 ∈ partsV (x :: r) := (mem_partsV _ _).2 ⟨x, List.mem_cons_self .., rfl⟩
    exact List.length_pos_of_mem this
theorem next_is {d : Drv} (h : (askedV d).2.2 = true) : (nextV d).2.2 = true := by unfold nextV; rw [if_pos h]
theorem partV_in {st : List S53} {ap : Int} (h0 : 0 ≤ ap) (h1 : ap < ((partsV st).length : Int)) : (partV st ap).2 = true := by unfold partV; rw [if_neg (by omega)]
theorem partV_out {st : List S53} {ap : Int} (h1 : ((partsV st).length : Int) ≤ ap) : (partV st ap).2 = false := by unfold partV; rw [if_pos (Or.inr h1)]
theorem DI.is {st : List S53} {d : Drv} (h : DI st d) : (nextV d).2.2 = !decide (d.ph = 5) := by
  obtain ⟨h1, h2, h3, hc⟩ := h
  rcases hc with ⟨e, _, _, a⟩ | ⟨e, _⟩ | ⟨e, _, a⟩ | ⟨e, _⟩ | ⟨e, a⟩ | e
  · rw [next_is, e]; rfl
    unfold askedV; rw [if_pos e, if_neg (by rw [h1]; omega)]
  · rw [next_is, e]; rfl
    unfold askedV; rw [e]; rfl
  · rw [next_is, e]; rfl
    unfold askedV; rw [e, h1]; exact partV_in h3 a
  · rw [next_is, e]; rfl
    unfold askedV; rw [e, if_neg (by omega), if_neg (by omega), if_neg (by omega), if_pos rfl]
    split <;> rfl
  · rw [next_is, e]; rfl
    unfold askedV; rw [e, h1]; exact partV_in h3 a
  · rw [e]
    unfold nextV askedV; rw [e]; rfl
theorem wrap_small {n : Int} (h0 : 0 ≤ n) (h1 : n ≤ 1000) : wrap64 n = n := by unfold wrap64; omega
theorem onV_di {ta ti : Int} {st : List S53} (hm : mayV ta ti st = true) {d : Drv} (h1 : d.st = st) (h2 : d.sw.length ≤ st.length) (h3 : 0 ≤ d.ap) (ha : d.ap < ((partsV st).length : Int)) (ph : Int) (hp : (ph = 3 ∧ d.ph = 2 ∧ d.fa = false) ∨ (ph = 5 ∧ d.ph = 4)) :
    DI st (onV d ph) ∧ ((d.ap + 1 < ((partsV st).length : Int) ∧ onV d ph = { d with ap := d.ap + 1 }) ∨ (¬ d.ap + 1 < ((partsV st).length : Int) ∧ onV d ph = { d with ap := 0, ph := ph })) := by
  obtain ⟨m1, m2, m3, m4⟩ := may_facts hm
  have hw : wrap64 (d.ap + 1) = d.ap + 1 := wrap_small (by omega) (by omega)
  by_cases hl : d.ap + 1 < ((partsV st).length : Int)
  · have e : onV d ph = { d with ap := d.ap + 1 } := by
      unfold onV
      rw [hw, h1, partV_in (by omega) hl, if_pos rfl]
    rw [e]
    refine ⟨⟨h1, h2, by show 0 ≤ d.ap + 1; omega, ?_⟩, Or.inl ⟨hl, rfl⟩⟩
    rcases hp with ⟨_, p, f⟩ | ⟨_, p⟩
    · exact Or.inr (Or.inr (Or.inl ⟨p, f, hl⟩))
    · exact Or.inr (Or.inr (Or.inr (Or.inr (Or.inl ⟨p, hl⟩))))
  · have e : onV d ph = { d with ap := 0, ph := ph } := by
      unfold onV
      rw [hw, h1, partV_out (by omega), if_neg (by simp)]
      unfold toV
      simp
    rw [e]
    refine ⟨⟨h1, h2, Int.le_refl _, ?_⟩, Or.inr ⟨hl, rfl⟩⟩
    rcases hp with ⟨p, _, _⟩ | ⟨p, _⟩
    · exact Or.inr (Or.inr (Or.inr (Or.inl ⟨p, rfl⟩)))
    · exact Or.inr (Or.inr (Or.inr (Or.inr (Or.inr p))))
/-- What an answer makes of a drive, phase by phase. -/
theorem hear_cases {ta ti : Int} {st : List S53} (hm : mayV ta ti st = true) {d : Drv} (h : DI st d) (er : Int) (va : ByteArray) (ve : Int) (fo co : Bool) :
    (d.ph = 0 ∧ er = 11 ∧ hearV d er va ve fo co = d) ∨
    (d.ph = 0 ∧ er = 0 ∧ d.ap + 1 < (st.length : Int) ∧ hearV d er va ve fo co = { d with ap := d.ap + 1, sw := d.sw ++ [⟨(st[d.ap.toNat]!).f0, (st[d.ap.toNat]!).f1, va, ve, fo⟩] }) ∨
    (d.ph = 0 ∧ er = 0 ∧ ¬ d.ap + 1 < (st.length : Int) ∧ hearV d er va ve fo co = { d with ap := 0, ph := 1, sw := d.sw ++ [⟨(st[d.ap.toNat]!).f0, (st[d.ap.toNat]!).f1, va, ve, fo⟩] }) ∨
    (d.ph = 0 ∧ er ≠ 0 ∧ er ≠ 11 ∧ hearV d er va ve fo co = { d with ap := 0, ph := 3, fa := true }) ∨
    (d.ph = 1 ∧ er = 0 ∧ hearV d er va ve fo co = { d with ap := 0, ph := 2 }) ∨
    (d.ph = 1 ∧ er ≠ 0 ∧ hearV d er va ve fo co = { d with ap := 0, ph := 3, fa := true }) ∨
    (d.ph = 2 ∧ er = 0 ∧ hearV d er va ve fo co = onV d 3) ∨
    (d.ph = 2 ∧ er ≠ 0 ∧ hearV d er va ve fo co = { d with ap := 0, ph := 3, fa := true }) ∨
    (d.ph = 3 ∧ hearV d er va ve fo co = { d with ap := 0, ph := 4, cm := decide (er = 0) && co }) ∨
    (d.ph = 4 ∧ hearV d er va ve fo co = onV d 5) ∨
    (d.ph = 5 ∧ hearV d er va ve fo co = d) := by
  obtain ⟨m1, m2, m3, m4⟩ := may_facts hm
  have his := h.is
  obtain ⟨h1, h2, h3, hc⟩ := h
  have hu : (nextV d).2.2 = true → hearV d er va ve fo co = if d.ph = 0 then worksV d er va ve fo else if d.ph = 1 then (if er = 0 then toV d 2 false else toV d 3 true) else if d.ph = 2 then (if er = 0 then onV d 3 else toV d 3 true) else if d.ph = 3 then toV { d with cm := decide (er = 0) && co } 4 false else onV d 5 := fun e => by
    unfold hearV
    rw [if_neg (by rw [e]; simp)]
  rcases hc with ⟨e, f, hs, a⟩ | ⟨e, f, _⟩ | ⟨e, f, a⟩ | ⟨e, _⟩ | ⟨e, a⟩ | e
  · rw [e] at his
    have hv := hu his
    rw [if_pos e] at hv
    rw [hv]
    have hw : wrap64 (d.ap + 1) = d.ap + 1 := wrap_small (by omega) (by omega)
    unfold worksV
    by_cases e1 : er = 11
    · rw [if_pos e1]; exact Or.inl ⟨e, e1, rfl⟩
    · rw [if_neg e1]
      by_cases e0 : er = 0
      · rw [if_pos e0, hw, h1]
        by_cases hl : d.ap + 1 < (st.length : Int)
        · rw [if_neg (by omega)]
          exact Or.inr (Or.inl ⟨e, e0, hl, rfl⟩)
        · rw [if_pos (by omega)]
          refine Or.inr (Or.inr (Or.inl ⟨e, e0, hl, ?_⟩))
          unfold toV
          simp [h1]
      · rw [if_neg e0]
        refine Or.inr (Or.inr (Or.inr (Or.inl ⟨e, e0, e1, ?_⟩)))
        unfold toV
        simp
  · rw [e] at his
    have hv := hu his
    rw [if_neg (by omega), if_pos e] at hv
    rw [hv]
    by_cases e0 : er = 0
    · rw [if_pos e0]
      refine Or.inr (Or.inr (Or.inr (Or.inr (Or.inl ⟨e, e0, ?_⟩))))
      unfold toV
      simp
    · rw [if_neg e0]
      refine Or.inr (Or.inr (Or.inr (Or.inr (Or.inr (Or.inl ⟨e, e0, ?_⟩)))))
      unfold toV
      simp
  · rw [e] at his
    have hv := hu his
    rw [if_neg (by omega), if_neg (by omega), if_pos e] at hv
    rw [hv]
    by_cases e0 : er = 0
    · rw [if_pos e0]
      exact Or.inr (Or.inr (Or.inr (Or.inr (Or.inr (Or.inr (Or.inl ⟨e, e0, rfl⟩))))))
    · rw [if_neg e0]
      refine Or.inr (Or.inr (Or.inr (Or.inr (Or.inr (Or.inr (Or.inr (Or.inl ⟨e, e0, ?_⟩)))))))
      unfold toV
      simp
  · rw [e] at his
    have hv := hu his
    rw [if_neg (by omega), if_neg (by omega), if_neg (by omega), if_pos e] at hv
    rw [hv]
    refine Or.inr (Or.inr (Or.inr (Or.inr (Or.inr (Or.inr (Or.inr (Or.inr (Or.inl ⟨e, ?_⟩))))))))
    unfold toV
    simp
  · rw [e] at his
    have hv := hu his
    rw [if_neg (by omega), if_neg (by omega), if_neg (by omega), if_neg (by omega)] at hv
    rw [hv]
    exact Or.inr (Or.inr (Or.inr (Or.inr (Or.inr (Or.inr (Or.inr (Or.inr (Or.inr (Or.inl ⟨e, rfl⟩)))))))))
  · rw [e] at his
    refine Or.inr (Or.inr (Or.inr (Or.inr (Or.inr (Or.inr (Or.inr (Or.inr (Or.inr (Or.inr ⟨e, ?_⟩)))))))))
    unfold hearV
    rw [if_pos (by rw [his]; rfl)]
theorem hear_di {ta ti : Int} {st : List S53} (hm : mayV ta ti st = true) {d : Drv} (h : DI st d) (er : Int) (va : ByteArray) (ve : Int) (fo co : Bool) : DI st (hearV d er va ve fo co) := by
  obtain ⟨m1, m2, m3, m4⟩ := may_facts hm
  have hcs := hear_cases hm h er va ve fo co
  have hd := h
  obtain ⟨h1, h2, h3, hc⟩ := h
  rcases hcs with ⟨p, _, e⟩ | ⟨p, _, hl, e⟩ | ⟨p, _, hl, e⟩ | ⟨p, _, _, e⟩ | ⟨p, _, e⟩ | ⟨p, _, e⟩ | ⟨p, _, e⟩ | ⟨p, _, e⟩ | ⟨p, e⟩ | ⟨p, e⟩ | ⟨p, e⟩ <;> rw [e]
  · exact hd
  · obtain ⟨_, f, hs, a⟩ : d.ph = 0 ∧ d.fa = false ∧ (d.sw.length : Int) = d.ap ∧ d.ap < (st.length : Int) := by rcases hc with h | h | h | h | h | h <;> first | exact h | omega
    exact ⟨h1, by show (d.sw ++ _).length ≤ _; simp; omega, by show 0 ≤ d.ap + 1; omega, Or.inl ⟨p, f, by show ((d.sw ++ _).length : Int) = d.ap + 1; simp; omega, hl⟩⟩
  · obtain ⟨_, f, hs, a⟩ : d.ph = 0 ∧ d.fa = false ∧ (d.sw.length : Int) = d.ap ∧ d.ap < (st.length : Int) := by rcases hc with h | h | h | h | h | h <;> first | exact h | omega
    exact ⟨h1, by show (d.sw ++ _).length ≤ _; simp; omega, Int.le_refl _, Or.inr (Or.inl ⟨rfl, f, by show (d.sw ++ _).length = _; simp; omega, rfl⟩)⟩
  · exact ⟨h1, h2, Int.le_refl _, Or.inr (Or.inr (Or.inr (Or.inl ⟨rfl, rfl⟩)))⟩
  · obtain ⟨_, f, _⟩ : d.ph = 1 ∧ d.fa = false ∧ d.sw.length = st.length ∧ d.ap = 0 := by rcases hc with h | h | h | h | h | h <;> first | exact h | omega
    exact ⟨h1, h2, Int.le_refl _, Or.inr (Or.inr (Or.inl ⟨rfl, f, by show (0 : Int) < _; omega⟩))⟩
  · exact ⟨h1, h2, Int.le_refl _, Or.inr (Or.inr (Or.inr (Or.inl ⟨rfl, rfl⟩)))⟩
  · obtain ⟨_, f, a⟩ : d.ph = 2 ∧ d.fa = false ∧ d.ap < ((partsV st).length : Int) := by rcases hc with h | h | h | h | h | h <;> first | exact h | omega
    exact (onV_di hm h1 h2 h3 a 3 (Or.inl ⟨rfl, p, f⟩)).1
  · exact ⟨h1, h2, Int.le_refl _, Or.inr (Or.inr (Or.inr (Or.inl ⟨rfl, rfl⟩)))⟩
  · exact ⟨h1, h2, Int.le_refl _, Or.inr (Or.inr (Or.inr (Or.inr (Or.inl ⟨rfl, by show (0 : Int) < _; omega⟩))))⟩
  · obtain ⟨_, a⟩ : d.ph = 4 ∧ d.ap < ((partsV st).length : Int) := by rcases hc with h | h | h | h | h | h <;> first | exact h | omega
    exact (onV_di hm h1 h2 h3 a 5 (Or.inr ⟨rfl, p⟩)).1
  · exact hd
theorem begin_di {ta ti : Int} {st : List S53} (hm : mayV ta ti st = true) : DI st ⟨ta, ti, st, 0, 0, false, false, false, []⟩ := by
  obtain ⟨m1, m2, m3, m4⟩ := may_facts hm
  exact ⟨rfl, Nat.zero_le _, Int.le_refl _, Or.inl ⟨rfl, rfl, rfl, by show (0 : Int) < _; omega⟩⟩
theorem DI.ok {ta ti : Int} {st : List S53} (hm : mayV ta ti st = true) (hg : ∀ x ∈ st, 0 ≤ x.f0 ∧ x.f0 ≤ 18446744073709551615) {d : Drv} (h : DI st d) : DOk d := by
  obtain ⟨m1, m2, m3, m4⟩ := may_facts hm
  exact ⟨by rw [h.hst]; omega, by rw [h.hst]; exact hg, by have := h.hsw; omega⟩
end Go.Proofs.Ytkennobdoldlkaa.PAll
end
