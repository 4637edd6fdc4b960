/- The plain laws of bags, third part: Put. -/
import Derived.Test.YthfkbfahpgdnfaaPB2
import Derived.Test.YthfkbfahpgdnfaaPAllx26
namespace Go.Proofs.Ythfkbfahpgdnfaa.PAll
open Go.RowKit Go.Proofs.YthfkbfahpgdnfaaW.PrintWords Go.Proofs.YthfkbfahpgdnfaaW.PrintMore Go.Proofs.Ythfkbfahpgdnfaa
set_option linter.unusedVariables false
theorem findI_at {α : Type} [Inhabited α] (p : α → Bool) (l : List α) (i : Nat) (hi : i < l.length) (hp : p (l[i]!) = true) (hno : ∀ k, k < i → p (l[k]!) = false) : findI p l = i := by
  have h : l.findIdx p = i := by
    rw [List.findIdx_eq hi]
    refine ⟨by rw [← getElem!_pos l i hi]; exact hp, fun j hj => ?_⟩
    rw [← getElem!_pos l j (by omega)]; exact hno j hj
  unfold findI
  rw [h, if_pos hi]
theorem findI_no {α : Type} [Inhabited α] (p : α → Bool) (l : List α) (hno : ∀ k, k < l.length → p (l[k]!) = false) : findI p l = -1 := by
  have h : ¬ l.findIdx p < l.length := by
    intro h
    have := List.findIdx_getElem (w := h)
    rw [← getElem!_pos l _ h, hno _ h] at this
    exact Bool.noConfusion this
  unfold findI
  rw [if_neg h]
theorem Put_l1 (l : List S79) (text : ByteArray) (ht : text.size ≤ 9223372036854775806) (hl : l.length < 5864062014804) (hmiss : findI (fun x : S79 => x.f0.toList == text.toList) l = -1) : ∀ (d j : Nat), d = l.length - j → j ≤ l.length → (∀ k, k < j → Op.bytesLess text.toList (l[k]!).f0.toList = false) → ∀ q, d + 2 * text.size + 4 < q → ferruleref18_Put.l1 q l text j = some (putB l text) := by
  intro d
  induction d with
  | zero =>
    intro j hd hj hno q hq
    obtain ⟨q, rfl⟩ : ∃ m, q = m + 1 := ⟨q - 1, by omega⟩
    have hje : j = l.length := by omega
    subst hje
    simp only [ferruleref18_Put.l1, Option.bind_some, List.nil_append, List.length_nil, Nat.zero_add, List.length_take, Int.toNat_natCast]
    rw [if_neg (by omega), if_pos (by omega), if_pos (by omega), if_pos (by omega), if_pos (by omega), List.take_length, List.drop_length, if_pos (by simp; omega)]
    have h2 : findI (fun x : S79 => !Op.bytesLess x.f0.toList text.toList && !x.f0.toList == text.toList) l = -1 := findI_no _ l (fun k hk => by rw [← less_flip]; exact hno k hk)
    simp only [putB, hmiss, h2]
    simp
  | succ d ih =>
    intro j hd hj hno q hq
    obtain ⟨q, rfl⟩ : ∃ m, q = m + 1 := ⟨q - 1, by omega⟩
    have hlt : j < l.length := by omega
    have hLess : ferruleref11_Less.f q text (l[j]!).f0 = some (Op.bytesLess text.toList (l[j]!).f0.toList) := by
      have := Less_l0 text (l[j]!).f0 (by omega) text.size 0 (by omega) (by omega) (by omega) q (by omega)
      simpa [ferruleref11_Less.f] using this
    simp only [ferruleref18_Put.l1]
    rw [if_pos (show (j : Int) < l.length by omega), if_pos (show (0 : Int) ≤ j by omega), rd_get l j hlt, hLess]
    simp only [Option.bind_some, List.nil_append, List.length_nil, Nat.zero_add, List.length_take, Int.toNat_natCast]
    cases hb : Op.bytesLess text.toList (l[j]!).f0.toList with
    | true =>
      rw [if_pos rfl, if_pos (by omega), if_pos (by omega), if_pos (by omega), if_pos (by simp; omega)]
      have h2 : findI (fun x : S79 => !Op.bytesLess x.f0.toList text.toList && !x.f0.toList == text.toList) l = j := findI_at _ l j hlt (by rw [← less_flip]; exact hb) (fun k hk => by rw [← less_flip]; exact hno k hk)
      simp only [putB, hmiss, h2]
      rw [if_neg (by omega), if_neg (by omega)]
      simp
    | false =>
      rw [if_neg (by decide), show wrap64 ((j : Int) + 1) = ((j + 1 : Nat) : Int) by unfold wrap64; omega]
      refine ih (j + 1) (by omega) (by omega) (fun k hk => ?_) q (by omega)
      by_cases e : k = j
      · subst e; exact hb
      · exact hno k (by omega)
theorem Put_l0 (l : List S79) (text : ByteArray) (ht : text.size ≤ 9223372036854775806) (hl : l.length < 5864062014804) : ∀ (d j : Nat), d = l.length - j → j ≤ l.length → (∀ k, k < j → ((l[k]!).f0.toList == text.toList) = false) → ∀ q, d + l.length + 2 * text.size + 6 < q → ferruleref18_Put.l0 q l text l j = some (putB l text) := by
  intro d
  induction d with
  | zero =>
    intro j hd hj hno q hq
    obtain ⟨q, rfl⟩ : ∃ m, q = m + 1 := ⟨q - 1, by omega⟩
    have hje : j = l.length := by omega
    subst hje
    simp only [ferruleref18_Put.l0]
    rw [if_neg (by omega)]
    exact Put_l1 l text ht hl (findI_no _ l hno) l.length 0 (by omega) (by omega) (fun k hk => absurd hk (by omega)) q (by omega)
  | succ d ih =>
    intro j hd hj hno q hq
    obtain ⟨q, rfl⟩ : ∃ m, q = m + 1 := ⟨q - 1, by omega⟩
    have hlt : j < l.length := by omega
    simp only [ferruleref18_Put.l0]
    rw [if_pos (show (j : Int) < l.length by omega), if_pos (show (0 : Int) ≤ j by omega), rd_get l j hlt, Int.toNat_natCast]
    by_cases hb : (l[j]!).f0.toList = text.toList
    · rw [if_pos hb]
      have h1 : findI (fun x : S79 => x.f0.toList == text.toList) l = j := findI_at _ l j hlt (beq_iff_eq.2 hb) hno
      simp only [putB, h1]
      rw [if_pos (by omega), Int.toNat_natCast]
    · rw [if_neg hb, show wrap64 ((j : Int) + 1) = ((j + 1 : Nat) : Int) by unfold wrap64; omega]
      refine ih (j + 1) (by omega) (by omega) (fun k hk => ?_) q (by omega)
      by_cases e : k = j
      · subst e; exact beq_eq_false_iff_ne.2 hb
      · exact hno k (by omega)
theorem rPut_ev (l : List S79) (text : ByteArray) (ht : text.size ≤ 9223372036854775806) (hl : l.length < 5864062014804) : Ev (fun q => ferruleref18_Put.f q l text) (putB l text) :=
  ⟨2 * l.length + 2 * text.size + 8, fun q hq => by
    have := Put_l0 l text ht hl l.length 0 (by omega) (by omega) (fun k hk => absurd hk (by omega)) q (by omega)
    unfold ferruleref18_Put.f
    simp only [Option.bind_some, List.nil_append, List.length_nil, Nat.zero_add]
    rw [if_pos (by omega)]
    simpa using this⟩
theorem putB_len (l : List S79) (text : ByteArray) : (putB l text).length ≤ l.length + 1 := by
  unfold putB
  dsimp only
  split
  · simp
  · simp only [List.length_append, List.length_take, List.length_cons, List.length_drop]
    omega
theorem takeR_len (l : List S79) (i : Nat) (hi : i < l.length) : (takeR l i).length ≤ l.length := by
  unfold takeR
  split
  · simp; omega
  · simp; omega
end Go.Proofs.Ythfkbfahpgdnfaa.PAll
