/- Joined texts of the claim GroupRises (part 26): contracts of functions and plain laws. -/
import Derived.Test.YtlmefnifhbcbcaaJGroupRises13
import Derived.Test.YtlmefnifhbcbcaaJGroupRises24
import Derived.Test.YtlmefnifhbcbcaaJGroupRises25
section
/- Plain laws of groups: two majorities have a node in common. -/
namespace Go.Proofs.Ytlmefnifhbcbcaa.PAll
open Go.RowKit Go.Proofs.YtlmefnifhbcbcaaW.PrintWords Go.Proofs.YtlmefnifhbcbcaaW.PrintMore Go.Proofs.Ytlmefnifhbcbcaa
set_option linter.unusedVariables false
def comV (a b : List Int) : Bool := a.any (fun x => hasI b x)
theorem common_l0 (a b : List Int) (ha : a.length ≤ 9223372036854775806) (hb : b.length ≤ 9223372036854775806) : ∀ (d j : Nat), d = a.length - j → j ≤ a.length → Ev (fun q => ferrulelaw06_common.l0 q a b (j : Int)) (comV (a.drop j) b) := by
  intro d
  induction d with
  | zero =>
    intro j hd hj
    rw [List.drop_eq_nil_of_le (by omega)]
    exact Ev.step (f := fun _ => some false) (fun q => by simp only [ferrulelaw06_common.l0]; rw [if_neg (show ¬ (j : Int) < a.length by omega)]) (Ev.now false)
  | succ d ih =>
    intro j hd hj
    have hlt : j < a.length := by omega
    rw [dropGet a j hlt]
    unfold comV
    rw [List.any_cons]
    refine Ev.step (f := fun q => (ferruleref06_Has.f q b a[j]!).bind fun t => if t = true then some true else ferrulelaw06_common.l0 q a b ((j + 1 : Nat) : Int)) (fun q => by simp only [ferrulelaw06_common.l0]; rw [if_pos (show (j : Int) < a.length by omega), if_pos (show (0 : Int) ≤ j by omega), rd_int a j hlt, wrapUp j (by omega)]) ?_
    refine Ev.bind (Has_ev b _ hb) ?_
    cases hasI b a[j]! with
    | true => exact Ev.congr (fun q => if_pos rfl) (Ev.now true)
    | false => exact Ev.congr (fun q => if_neg (by decide)) (ih (j + 1) (by omega) (by omega))
theorem common_ev (a b : List Int) (ha : a.length ≤ 9223372036854775806) (hb : b.length ≤ 9223372036854775806) : Ev (fun q => ferrulelaw06_common.f q a b) (comV a b) := common_l0 a b ha hb a.length 0 (by omega) (by omega)
theorem comV_of {a b : List Int} {x : Int} (h1 : hasI a x = true) (h2 : hasI b x = true) : comV a b = true := by
  unfold comV
  exact List.any_eq_true.2 ⟨x, hasI_iff.1 h1, h2⟩
/-- How many of a list are in another. -/
def cntH (v a : List Int) : Nat := (v.filter (hasI a)).length
theorem mostGo_cnt : ∀ (v : List Int) (S : Int → Bool), v.Pairwise (· < ·) → mostGo S v = ((v.filter S).length : Nat)
  | [], S, _ => rfl
  | x :: r, S, h => by
    rw [List.pairwise_cons] at h
    unfold mostGo
    by_cases c : S x = true
    · rw [if_pos c, List.filter_cons_of_pos c, mostGo_cnt r _ h.2, List.length_cons]
      have : r.filter (fun y => if y = x then false else S y) = r.filter S := by
        apply List.filter_congr
        intro y hy
        have := h.1 y hy
        rw [if_neg (by omega)]
      rw [this]
      omega
    · rw [if_neg c, List.filter_cons_of_neg c, mostGo_cnt r _ h.2]
theorem most_cnt {v a : List Int} (h : risesB v = true) : mostV v a = decide (cntH v a ≥ v.length / 2 + 1) := by
  unfold mostV
  rw [mostGo_cnt v _ (rises_pw h)]
  exact decide_eq_decide.2 (by unfold cntH; omega)
/-- Two that are more than a list have one in common. -/
theorem meet_of (u a b : List Int) (h : u.length < cntH u a + cntH u b) : comV a b = true := by
  have key : ∀ u : List Int, u.length < cntH u a + cntH u b → ∃ x ∈ u, hasI a x = true ∧ hasI b x = true := by
    intro u
    induction u with
    | nil => intro h; simp [cntH] at h
    | cons x r ih =>
      intro h
      by_cases ca : hasI a x = true
      · by_cases cb : hasI b x = true
        · exact ⟨x, List.mem_cons_self, ca, cb⟩
        · unfold cntH at h
          rw [List.filter_cons_of_pos ca, List.filter_cons_of_neg cb, List.length_cons, List.length_cons] at h
          obtain ⟨y, hy, h1, h2⟩ := ih (by unfold cntH; omega)
          exact ⟨y, List.mem_cons_of_mem _ hy, h1, h2⟩
      · unfold cntH at h
        rw [List.filter_cons_of_neg ca, List.length_cons] at h
        have h3 : ((x :: r).filter (hasI b)).length ≤ (r.filter (hasI b)).length + 1 := by
          rw [List.filter_cons]
          split <;> simp
        obtain ⟨y, hy, h1, h2⟩ := ih (by unfold cntH; omega)
        exact ⟨y, List.mem_cons_of_mem _ hy, h1, h2⟩
  obtain ⟨x, _, h1, h2⟩ := key u h
  exact comV_of h1 h2
theorem cntH_ins (a : List Int) (id : Int) : ∀ l : List Int, cntH l a ≤ cntH (insV l id) a
  | [] => by simp [cntH]
  | x :: r => by
    unfold insV
    split
    · unfold cntH
      rw [List.filter_cons (x := id)]
      split <;> simp
    · have := cntH_ins a id r
      unfold cntH at *
      rw [List.filter_cons, List.filter_cons]
      split
      · rw [List.length_cons, List.length_cons]; omega
      · exact this
theorem cntH_del (a : List Int) (id : Int) (l : List Int) : cntH (delV l id) a ≤ cntH l a := by
  unfold cntH delV
  exact (List.filter_sublist (l := l)).filter _ |>.length_le
theorem delV_pw {l : List Int} (id : Int) (h : l.Pairwise (· < ·)) : (delV l id).Pairwise (· < ·) := h.filter _
theorem delV_mem {l : List Int} {id x : Int} : x ∈ delV l id ↔ x ∈ l ∧ x ≠ id := by
  unfold delV
  rw [List.mem_filter]
  simp
theorem delV_rises {l : List Int} (id : Int) (h : risesB l = true) : risesB (delV l id) = true := rises_of (delV_pw id (rises_pw h)) (fun x hx => rises_val h x (delV_mem.1 hx).1)
theorem insV_mem {id x : Int} : ∀ {l : List Int}, x ∈ insV l id ↔ x = id ∨ x ∈ l
  | [] => by simp [insV]
  | y :: r => by
    unfold insV
    split
    · simp
    · rw [List.mem_cons, insV_mem (l := r), List.mem_cons]
      constructor
      · rintro (h | h | h)
        · exact .inr (.inl h)
        · exact .inl h
        · exact .inr (.inr h)
      · rintro (h | h | h)
        · exact .inr (.inl h)
        · exact .inl h
        · exact .inr (.inr h)
theorem insV_pw {id : Int} : ∀ {l : List Int}, l.Pairwise (· < ·) → id ∉ l → (insV l id).Pairwise (· < ·)
  | [], _, _ => by simp [insV]
  | y :: r, h, hn => by
    have h' := List.pairwise_cons.1 h
    unfold insV
    split
    · rename_i c
      refine List.pairwise_cons.2 ⟨fun z hz => ?_, h⟩
      rcases List.mem_cons.1 hz with rfl | hz
      · exact c
      · have := h'.1 z hz; omega
    · rename_i c
      have hne : id ≠ y := fun e => hn (by rw [e]; exact List.mem_cons_self)
      refine List.pairwise_cons.2 ⟨fun z hz => ?_, insV_pw h'.2 (fun hm => hn (List.mem_cons_of_mem _ hm))⟩
      rcases insV_mem.1 hz with rfl | hz
      · omega
      · exact h'.1 z hz
theorem insV_rises {l : List Int} {id : Int} (h : risesB l = true) (hn : id ∉ l) (h1 : 1 ≤ id) (h2 : id ≤ 63) : risesB (insV l id) = true := rises_of (insV_pw (rises_pw h) hn) (fun x hx => by
  rcases insV_mem.1 hx with rfl | hx
  · exact ⟨h1, h2⟩
  · exact rises_val h x hx)
theorem hasI_not {l : List Int} {x : Int} (h : hasI l x = false) : x ∉ l := fun hm => by rw [hasI_iff.2 hm] at h; cases h
theorem not_hasI {l : List Int} {x : Int} (h : x ∉ l) : hasI l x = false := by
  rw [← Bool.not_eq_true]
  exact fun hm => h (hasI_iff.1 hm)
theorem delV_le (l : List Int) (id : Int) (h : l.Pairwise (· < ·)) : l.length ≤ (delV l id).length + 1 := by
  induction l with
  | nil => simp
  | cons x r ih =>
    have h' := List.pairwise_cons.1 h
    unfold delV
    by_cases c : x = id
    · rw [List.filter_cons_of_neg (by simpa using c)]
      have : r.filter (fun y => !(y == id)) = r := by
        rw [List.filter_eq_self]
        intro y hy
        have := h'.1 y hy
        simp
        omega
      rw [this, List.length_cons]
      omega
    · rw [List.filter_cons_of_pos (by simpa using c), List.length_cons, List.length_cons]
      have := ih h'.2
      unfold delV at this
      omega
/-- Two majorities of one configuration. -/
theorem meet_one {v a b : List Int} (hr : risesB v = true) (h1 : mostV v a = true) (h2 : mostV v b = true) : comV a b = true := by
  rw [most_cnt hr] at h1 h2
  have := of_decide_eq_true h1
  have := of_decide_eq_true h2
  exact meet_of v a b (by omega)
/-- What is behind a change that is done. -/
theorem nextV_ok {v l : List Int} {kd id : Int} (h : (nextV v l kd id).2.2 = 0) : mayV (nextV v l kd id).1 (nextV v l kd id).2.1 = true ∧ ((nextV v l kd id).1 = v ∨ (nextV v l kd id).1 = insV v id ∨ (nextV v l kd id).1 = delV v id) ∧ mayV v l = true := by
  unfold nextV at h ⊢
  split at h
  case isFalse => cases h
  rename_i hg
  obtain ⟨hm, g1, g2, g3, g4⟩ := hg
  rw [if_pos ⟨hm, g1, g2, g3, g4⟩]
  obtain ⟨m1, m2, m3, m4, m5, m6⟩ := mayV_ok hm
  have lv := insV_len id v
  have ll := insV_len id l
  have dv := delV_len v id
  have dl := delV_len l id
  split at h
  · rename_i k1
    rw [if_pos k1]
    split at h
    · cases h
    · rename_i c1
      rw [if_neg c1]
      split at h
      · cases h
      · rename_i c2
        rw [if_neg c2]
        rw [Bool.or_eq_true] at c1
        have n1 : hasI v id = false := by rw [← Bool.not_eq_true]; exact fun e => c1 (.inl e)
        have n2 : hasI l id = false := by rw [← Bool.not_eq_true]; exact fun e => c1 (.inr e)
        refine ⟨mayV_of m1 m2 (by show (insV l id).length ≤ 3; omega) m4 (insV_rises m5 (hasI_not n2) g1 g2) (fun x hx => ?_), .inl rfl, hm⟩
        rcases insV_mem.1 hx with rfl | hx
        · exact n1
        · exact m6 x hx
  · rename_i k1
    rw [if_neg k1]
    split at h
    · rename_i k2
      rw [if_pos k2]
      split at h
      · rename_i c1
        rw [if_pos c1]
        split at h
        · cases h
        · rename_i c2
          rw [if_neg c2]
          refine ⟨mayV_of (by show 1 ≤ (insV v id).length; omega) (by show (insV v id).length ≤ 7; omega) (by show (delV l id).length ≤ 3; omega) (insV_rises m4 (hasI_not (m6 id (hasI_iff.1 c1))) g1 g2) (delV_rises id m5) (fun x hx => ?_), .inr (.inl rfl), hm⟩
          have hx' := delV_mem.1 hx
          refine not_hasI (fun hi => ?_)
          rcases insV_mem.1 hi with e | hi
          · exact hx'.2 e
          · exact hasI_not (m6 x hx'.1) hi
      · cases h
    · rename_i k2
      rw [if_neg k2]
      split at h
      · rename_i c1
        rw [if_pos c1]
        split at h
        · cases h
        · rename_i c2
          rw [if_neg c2]
          have hle := delV_le v id (rises_pw m4)
          refine ⟨mayV_of ?_ (by show (delV v id).length ≤ 7; omega) (by show (delV l id).length ≤ 3; omega) (delV_rises id m4) (delV_rises id m5) (fun x hx => ?_), .inr (.inr rfl), hm⟩
          · show 1 ≤ (delV v id).length
            by_cases c3 : hasI v id = true
            · rw [c3, Bool.true_and] at c2
              have : ¬ v.length = 1 := fun e => c2 (decide_eq_true e)
              omega
            · have : delV v id = v := by
                unfold delV
                rw [List.filter_eq_self]
                intro y hy
                have : y ≠ id := fun e => c3 (hasI_iff.2 (e ▸ hy))
                simpa using this
              rw [this]
              exact m1
          · have hx' := delV_mem.1 hx
            exact not_hasI (fun hi => hasI_not (m6 x hx'.1) (delV_mem.1 hi).1)
      · cases h
/-- A majority of a configuration, and one of the next one. -/
theorem meet_next {v l a b : List Int} {kd id : Int} (h : (nextV v l kd id).2.2 = 0) (h1 : mostV v a = true) (h2 : mostV (nextV v l kd id).1 b = true) : comV a b = true := by
  obtain ⟨hd, hw, hm⟩ := nextV_ok h
  have hr := (mayV_ok hm).2.2.2.1
  have hrd := (mayV_ok hd).2.2.2.1
  rcases hw with e | e | e
  · rw [e] at h2
    exact meet_one hr h1 h2
  · rw [e] at h2 hrd
    rw [most_cnt hr] at h1
    rw [most_cnt hrd] at h2
    have := of_decide_eq_true h1
    have := of_decide_eq_true h2
    have := cntH_ins a id v
    have := insV_len id v
    exact meet_of (insV v id) a b (by omega)
  · rw [e] at h2 hrd
    rw [most_cnt hr] at h1
    rw [most_cnt hrd] at h2
    have := of_decide_eq_true h1
    have := of_decide_eq_true h2
    have := cntH_del b id v
    have := delV_le v id (rises_pw hr)
    exact meet_of v a b (by omega)
end Go.Proofs.Ytlmefnifhbcbcaa.PAll
end
