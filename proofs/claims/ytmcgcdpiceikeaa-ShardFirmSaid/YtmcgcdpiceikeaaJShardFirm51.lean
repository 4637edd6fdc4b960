/- Joined texts of the claim ShardFirm (part 51): contracts of functions and plain laws. -/
import Derived.Test.YtmcgcdpiceikeaaJShardFirm12
import Derived.Test.YtmcgcdpiceikeaaJShardFirm17
import Derived.Test.YtmcgcdpiceikeaaJShardFirm22
import Derived.Test.YtmcgcdpiceikeaaJShardFirm50
section
/- Which transactions are firm; a firm one stays so, and can be committed. -/
namespace Go.Proofs.Ytmcgcdpiceikeaa.PAll
open Go.RowKit Go.Proofs.YtmcgcdpiceikeaaW.PrintWords Go.Proofs.YtmcgcdpiceikeaaW.PrintMore Go.Proofs.Ytmcgcdpiceikeaa
set_option linter.unusedVariables false
set_option linter.unusedSimpArgs false
/-- What the law's own 'firm' tells. -/
def firmT (os : List S48) (t : S30) : Bool := match os.find? (isOpenT t) with | none => false | some x => x.f1
theorem firmT_cons (x : S48) (r : List S48) (t : S30) : firmT (x :: r) t = if isOpenT t x = true then x.f1 else firmT r t := by
  unfold firmT
  rw [List.find?_cons]
  cases h : isOpenT t x with
  | true => rfl
  | false => rfl
theorem firm15_l0 (rs : List S50) (hs : List S75) (os : List S48) (ds : List S68) (ver : Int) (t : S30) (hl : os.length ≤ 9223372036854775807) : ∀ (d j : Nat), d = os.length - j → j ≤ os.length → Ev (fun q => ferrulelaw13_firm.l0 q (j : Int) rs hs os ds ver t.f0 t.f1) (firmT (os.drop j) t) := by
  intro d
  induction d with
  | zero =>
    intro j hd hj
    obtain rfl : j = os.length := by omega
    rw [List.drop_length]
    exact Ev.step (f := fun _ => some false) (fun q => by simp only [ferrulelaw13_firm.l0]; exact if_neg (by omega)) (Ev.now false)
  | succ d ih =>
    intro j hd hj
    have hlt : j < os.length := by omega
    rw [dropBang os j hlt, firmT_cons]
    refine Ev.step (fun q => by simp only [ferrulelaw13_firm.l0]; rw [if_pos (by omega), if_pos (by omega), rdOpen os j hlt, wrapInc j (by omega)]) ?_
    have e : (((os[j]!).f0.f0 == t.f0) && ((os[j]!).f0.f1 == t.f1)) = isOpenT t (os[j]!) := rfl
    rw [e]
    cases c : isOpenT t (os[j]!) with
    | true => exact Ev.congr (fun _ => if_pos rfl) (Ev.now _)
    | false => exact Ev.congr (fun _ => if_neg (by decide)) (ih (j + 1) (by omega) (by omega))
theorem firm15_at {W : World} {q : Nat} {s : Shd} (h : ShdAt W q s) (t : S30) : ∃ (A0 : Option Addr) (n0 c0 : Nat) (A1 : Option Addr) (n1 c1 : Nat) (A2 : Option Addr) (n2 c2 : Nat) (A3 : Option Addr) (n3 c3 : Nat), W.heap[q]? = some (.cells #[.slice A0 n0 c0, .slice A1 n1 c1, .slice A2 n2 c2, .slice A3 n3 c3, .int .u64 s.ver] 28 (0, 0)) ∧
    Calls Try.prog 15 #[.agg #[.slice A0 n0 c0, .slice A1 n1 c1, .slice A2 n2 c2, .slice A3 n3 c3, .int .u64 s.ver], .agg #[.int .u64 t.f0, .int .u64 t.f1]] W fun e w' => e = .returned (.bool (firmT s.opens t)) ∧ Below W.heap.size W w' := by
  obtain ⟨A0, c0, A1, c1, A2, c2, A3, c3, h, ⟨a, a'⟩, ⟨b, b'⟩, ⟨c, c'⟩, ⟨d, d'⟩⟩ := h
  refine ⟨A0, _, c0, A1, _, c1, A2, _, c2, A3, _, c3, h, ?_⟩
  have e := firm15_l0 s.rows s.holds s.opens s.dones s.ver t c.2.1 s.opens.length 0 (by omega) (by omega)
  rw [List.drop_zero] at e
  obtain ⟨k, hk⟩ := e.rounds
  exact ferrulelaw13_firm.calls k A0 c0 s.rows A1 c1 s.holds A2 c2 s.opens A3 c3 s.dones s.ver t.f0 t.f1 _ W a a' b b' c c' d d' hk
theorem firmT_iff {s : Shd} (h : InvS s) (t : S30) : firmT s.opens t = true ↔ ∃ x ∈ s.opens, x.f0 = t ∧ x.f1 = true := by
  unfold firmT
  constructor
  · intro hf
    cases e : s.opens.find? (isOpenT t) with
    | none => rw [e] at hf; cases hf
    | some x =>
      rw [e] at hf
      exact ⟨x, List.mem_of_find?_eq_some e, same_iff.1 (show isOpenT t x = true from List.find?_some e), hf⟩
  · rintro ⟨x, hx, h0, h1⟩
    cases e : s.opens.find? (isOpenT t) with
    | none => exact absurd (same_iff.2 h0) (by have := List.find?_eq_none.1 e x hx; unfold isOpenT at this; exact this)
    | some y =>
      have hy := List.mem_of_find?_eq_some e
      have hy0 : y.f0 = t := same_iff.1 (show isOpenT t y = true from List.find?_some e)
      have : y = x := uniq_eq h.uniq y hy x hx (hy0.trans h0.symm)
      subst this
      exact h1
theorem known_at {s : Shd} (h : InvS s) {x : S48} (hx : x ∈ s.opens) : ∃ i, i < s.opens.length ∧ findI (isOpenT x.f0) s.opens = (i : Int) ∧ s.opens[i]! = x := by
  obtain ⟨i, hi, hf⟩ := findI_range0 _ _ (known_iff.2 ⟨x, hx, rfl⟩)
  refine ⟨i, hi, hf, ?_⟩
  have e0 : (s.opens[i]!).f0 = x.f0 := same_iff.1 (findI_bang (p := isOpenT x.f0) hi hf)
  exact uniq_eq h.uniq _ (bang_mem hi) _ hx e0
theorem firm_stays {s : Shd} (h : InvS s) {t u : S30} {x : S48} (hx : x ∈ s.opens) (h0 : x.f0 = t) (h1 : x.f1 = true) (kind : Int) (hu : ¬ (u = t ∧ kind = 4)) (k : ByteArray) (ps : List S54) (cm : Bool) : x ∈ (doS s kind u k ps cm).1.opens := by
  unfold doS
  split
  · rcases asks_cases s kind u k with ⟨e, _⟩ | ⟨_, _, _, _, _, rh, rw_, ha, e⟩
    · rw [e]; exact hx
    · rw [e]
      have g := askV_good s.holds u k _ (firmV s.opens) h.locks h.h48 ha
      have hn : x.f0 ∉ rw_ := fun hm => g.firm _ hm (firmV_mem.2 ⟨x, hx, h1, rfl⟩)
      exact asked_mem.2 (.inl ⟨x, hx, wound_not hn⟩)
  split
  · rcases preps_cases s u ps with e | ⟨_, i, hi, hf, _, hf1, _, _, _, e⟩
    · rw [e]; exact hx
    · rw [e]
      rcases set_find (v := ⟨(s.opens[i]!).f0, true, false, ps⟩) hi hx with hx' | ⟨rfl, _⟩
      · exact hx'
      · rw [h1] at hf1; cases hf1
  split
  · rename_i h4
    have hne : u ≠ t := fun e => hu ⟨e, h4⟩
    rcases fins_cases s u cm with e | ⟨_, _, rows, ver, e, _⟩
    · rw [e]; exact hx
    · rw [e]
      exact List.mem_filter.2 ⟨hx, by rw [same_false.2 (by rw [h0]; exact fun e => hne e.symm)]; rfl⟩
  · exact hx
/-- A firm transaction's commit. -/
theorem firm_commits {s : Shd} (h : InvS s) {t : S30} {x : S48} (hx : x ∈ s.opens) (h0 : x.f0 = t) (h1 : x.f1 = true) :
    (doS s 4 t ⟨#[]⟩ [] true).2 = ⟨0, ⟨#[]⟩, 0, false, true⟩ ∧ ∀ p ∈ x.f3, getV (doS s 4 t ⟨#[]⟩ [] true).1.rows p.f0 = if p.f2 = true then (⟨#[]⟩, ⟨#[]⟩, 0, false) else (p.f0, p.f1, (doS s 4 t ⟨#[]⟩ [] true).1.ver, true) := by
  have e : doS s 4 t ⟨#[]⟩ [] true = finsV s t true := rfl
  rw [e]
  obtain ⟨i, hi, hf, hxi⟩ := known_at h hx
  rw [h0] at hf
  have hno : ¬ 0 ≤ findI (isDoneT t) s.dones := fun hd => by
    obtain ⟨d, hd1, hd2⟩ := over_iff.1 hd
    exact h.apart x hx d hd1 (by rw [h0, hd2])
  unfold finsV
  rw [if_neg hno, hf, if_neg (by omega), Int.toNat_natCast, hxi, h1, if_neg (fun h => absurd h.2 (by decide))]
  by_cases h3 : x.f3 = []
  · rw [if_neg (fun h => h.2 h3), h3]
    exact ⟨rfl, fun p hp => by cases hp⟩
  · rw [if_pos ⟨rfl, h3⟩]
    obtain ⟨v1, v2⟩ := ver_wrap h
    have hn := h.n
    rw [v1]
    have hok := allV_ok (s.ver + 1) h.rows (h.wf x hx).2.2.1 h.keys (fun p hp hg => .inr (.inl ⟨x, hx, h1, p, hp, hg, rfl⟩))
    rw [if_neg (fun h => h hok)]
    obtain ⟨_, b2, _, _⟩ := allV_right s.rows x.f3 (s.ver + 1) h.rows (by omega) hok
    refine ⟨rfl, fun p hp => ?_⟩
    show getV (allV s.rows x.f3 (s.ver + 1)).1 p.f0 = if p.f2 = true then (⟨#[]⟩, ⟨#[]⟩, 0, false) else (p.f0, p.f1, s.ver + 1, true)
    rw [getV_look, b2 p hp]
    cases p.f2 <;> rfl
end Go.Proofs.Ytmcgcdpiceikeaa.PAll
end
