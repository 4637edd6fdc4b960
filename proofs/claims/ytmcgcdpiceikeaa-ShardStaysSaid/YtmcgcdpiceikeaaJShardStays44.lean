/- Joined texts of the claim ShardStays (part 44): contracts of functions and plain laws. -/
import Derived.Test.YtmcgcdpiceikeaaJShardStays43
set_option linter.unusedVariables false
set_option linter.unusedSimpArgs false
section
namespace Go.Proofs.Ytmcgcdpiceikeaa.PAll
open Go.RowKit Go.Proofs.YtmcgcdpiceikeaaW.PrintWords Go.Proofs.YtmcgcdpiceikeaaW.PrintMore Go.Proofs.Ytmcgcdpiceikeaa
theorem same_iff {a b : S30} : qz34 a b = true ↔ a = b := by
  obtain ⟨a0, a1⟩ := a
  obtain ⟨b0, b1⟩ := b
  unfold qz34
  simp
theorem same_false {a b : S30} : qz34 a b = false ↔ a ≠ b := by
  rw [Ne, ← same_iff]
  simp
theorem nodup_len {α : Type} : ∀ {l m : List α}, l.Nodup → (∀ x ∈ l, x ∈ m) → l.length ≤ m.length
  | [], _, _, _ => Nat.zero_le _
  | x :: r, m, hn, h => by
    rw [List.nodup_cons] at hn
    obtain ⟨a, b, rfl⟩ := List.append_of_mem (h x (List.mem_cons_self ..))
    have ih := nodup_len (l := r) (m := a ++ b) hn.2 (fun y hy => by
      have := h y (List.mem_cons_of_mem _ hy)
      rcases List.mem_append.1 this with h1 | h1
      · exact List.mem_append.2 (.inl h1)
      · rcases List.mem_cons.1 h1 with h2 | h2
        · subst h2; exact absurd hy hn.1
        · exact List.mem_append.2 (.inr h2))
    rw [List.length_cons, List.length_append, List.length_cons]
    rw [List.length_append] at ih
    omega
theorem withV_mem {l : List ByteArray} {k k' : ByteArray} : k' ∈ withV l k ↔ k' ∈ l ∨ k' = k := by
  unfold withV
  split
  · rename_i h
    exact ⟨.inl, fun h' => h'.elim id (fun e => e ▸ h)⟩
  · simp
theorem withV_nodup {l : List ByteArray} {k : ByteArray} (h : l.Nodup) : (withV l k).Nodup := by
  unfold withV
  split
  · exact h
  · rename_i hk
    rw [List.nodup_append]
    exact ⟨h, by simp, fun a ha b hb e => hk (by rw [List.mem_singleton.1 hb] at e; exact e ▸ ha)⟩
theorem addPuts_spec : ∀ (ps : List S54) (acc : List ByteArray), acc.Nodup → (qz52 acc ps).Nodup ∧ ∀ k, k ∈ qz52 acc ps ↔ k ∈ acc ∨ ∃ p ∈ ps, p.f2 = false ∧ p.f0 = k
  | [], acc, h => ⟨h, fun k => by simp [qz52]⟩
  | p :: r, acc, h => by
    rw [show qz52 acc (p :: r) = qz52 (if p.f2 = true then acc else withV acc p.f0) r from rfl]
    cases hp : p.f2 with
    | true =>
      rw [if_pos rfl]
      obtain ⟨h1, h2⟩ := addPuts_spec r acc h
      refine ⟨h1, fun k => ?_⟩
      rw [h2]
      simp [hp]
    | false =>
      rw [if_neg (by decide)]
      obtain ⟨h1, h2⟩ := addPuts_spec r (withV acc p.f0) (withV_nodup h)
      refine ⟨h1, fun k => ?_⟩
      rw [h2, withV_mem]
      simp only [List.mem_cons, exists_eq_or_imp, hp, true_and]
      constructor
      · rintro ((h | h) | h)
        · exact .inl h
        · exact .inr (.inl h.symm)
        · exact .inr (.inr h)
      · rintro (h | h | h)
        · exact .inl (.inl h)
        · exact .inl (.inr h.symm)
        · exact .inr h
theorem openKeys_spec : ∀ (l : List S48) (acc : List ByteArray), acc.Nodup → (qz42 acc l).Nodup ∧ ∀ k, k ∈ qz42 acc l ↔ k ∈ acc ∨ ∃ x ∈ l, x.f1 = true ∧ ∃ p ∈ x.f3, p.f2 = false ∧ p.f0 = k
  | [], acc, h => ⟨h, fun k => by simp [qz42]⟩
  | x :: r, acc, h => by
    rw [show qz42 acc (x :: r) = qz42 (if x.f1 = true then qz52 acc x.f3 else acc) r from rfl]
    cases hx : x.f1 with
    | true =>
      rw [if_pos rfl]
      obtain ⟨a1, a2⟩ := addPuts_spec x.f3 acc h
      obtain ⟨h1, h2⟩ := openKeys_spec r _ a1
      refine ⟨h1, fun k => ?_⟩
      rw [h2, a2]
      simp only [List.mem_cons, exists_eq_or_imp, hx, true_and, or_assoc]
    | false =>
      rw [if_neg (by decide)]
      obtain ⟨h1, h2⟩ := openKeys_spec r acc h
      refine ⟨h1, fun k => ?_⟩
      rw [h2]
      simp [hx]
theorem rowsFrom_spec : ∀ (l : List S50) (acc : List ByteArray), acc.Nodup → (l.foldl (fun a r => withV a r.f0) acc).Nodup ∧ ∀ k, k ∈ l.foldl (fun a r => withV a r.f0) acc ↔ k ∈ acc ∨ ∃ r ∈ l, r.f0 = k
  | [], acc, h => ⟨h, fun k => by simp⟩
  | x :: r, acc, h => by
    rw [List.foldl_cons]
    obtain ⟨h1, h2⟩ := rowsFrom_spec r (withV acc x.f0) (withV_nodup h)
    refine ⟨h1, fun k => ?_⟩
    rw [h2, withV_mem]
    simp only [List.mem_cons, exists_eq_or_imp]
    constructor
    · rintro ((h | h) | h)
      · exact .inl h
      · exact .inr (.inl h.symm)
      · exact .inr (.inr h)
    · rintro (h | h | h)
      · exact .inl (.inl h)
      · exact .inl (.inr h.symm)
      · exact .inr h
def inKeys (rs : List S50) (os : List S48) (ps : List S54) (k : ByteArray) : Prop :=
  (∃ r ∈ rs, r.f0 = k) ∨ (∃ x ∈ os, x.f1 = true ∧ ∃ p ∈ x.f3, p.f2 = false ∧ p.f0 = k) ∨ ∃ p ∈ ps, p.f2 = false ∧ p.f0 = k
theorem keys_spec (rs : List S50) (os : List S48) (ps : List S54) : (qz52 (qz42 (rowKeys rs) os) ps).Nodup ∧ ∀ k, k ∈ qz52 (qz42 (rowKeys rs) os) ps ↔ inKeys rs os ps k := by
  obtain ⟨a1, a2⟩ := rowsFrom_spec rs [] List.nodup_nil
  obtain ⟨b1, b2⟩ := openKeys_spec os (rowKeys rs) a1
  obtain ⟨c1, c2⟩ := addPuts_spec ps _ b1
  refine ⟨c1, fun k => ?_⟩
  rw [c2, b2]
  unfold rowKeys inKeys
  rw [a2]
  simp [or_assoc]
theorem keysV_le {rs rs' : List S50} {os os' : List S48} {ps ps' : List S54} (h : ∀ k, inKeys rs' os' ps' k → inKeys rs os ps k) : keysV rs' os' ps' ≤ keysV rs os ps := by
  obtain ⟨a1, a2⟩ := keys_spec rs' os' ps'
  obtain ⟨b1, b2⟩ := keys_spec rs os ps
  exact nodup_len a1 (fun k hk => (b2 k).2 (h k ((a2 k).1 hk)))
structure RightL (l : List S75) : Prop where
  nd : (l.map (fun x => (x.f1, x.f0.toList))).Nodup
  way : ∀ x ∈ l, ∀ y ∈ l, inWayB y x.f1 x.f0 x.f2 = false
theorem RightL.filter {l : List S75} (h : RightL l) (p : S75 → Bool) : RightL (l.filter p) :=
  ⟨h.nd.sublist ((List.filter_sublist).map _), fun x hx y hy => h.way x (List.mem_filter.1 hx).1 y (List.mem_filter.1 hy).1⟩
theorem hasTx_iff {l : List S30} {t : S30} : hasTx l t = true ↔ t ∈ l := by
  unfold hasTx
  rw [List.any_eq_true]
  constructor
  · rintro ⟨x, hx, e⟩
    rw [same_iff] at e
    exact e ▸ hx
  · intro h
    exact ⟨t, h, same_iff.2 rfl⟩
theorem hasTx_not {l : List S30} {t : S30} : hasTx l t = false ↔ t ∉ l := by
  rw [← hasTx_iff]
  simp
theorem goAsk_spec (t : S30) (key : ByteArray) (wr : Bool) (firm : List S30) : ∀ (l : List S75) (out out' : List S30), goAsk t key wr firm l out = some out' →
    (∀ y ∈ out, y ∈ out') ∧ (∀ x ∈ l, inWayB x t key wr = true → x.f1 ∈ out') ∧ (∀ y ∈ out', y ∈ out ∨ (y ∉ firm ∧ y ≠ t))
  | [], out, out', h => by
    cases h
    exact ⟨fun y hy => hy, fun x hx => (by cases hx), fun y hy => .inl hy⟩
  | x :: r, out, out', h => by
    unfold goAsk at h
    by_cases c1 : inWayB x t key wr = true
    · rw [if_pos c1] at h
      by_cases c2 : (hasTx firm x.f1 || !elderB t x.f1) = true
      · rw [if_pos c2] at h; cases h
      · rw [if_neg c2] at h
        obtain ⟨h1, h2, h3⟩ := goAsk_spec t key wr firm r _ out' h
        have hx : x.f1 ∈ out' := by
          apply h1
          split
          · rename_i c; exact hasTx_iff.1 c
          · simp
        have hne : x.f1 ≠ t := by
          unfold inWayB at c1
          simp only [Bool.and_eq_true, Bool.not_eq_true'] at c1
          exact same_false.1 c1.2.1
        have hnf : x.f1 ∉ firm := by
          rw [Bool.or_eq_true, not_or] at c2
          exact fun hm => c2.1 (hasTx_iff.2 hm)
        refine ⟨fun y hy => h1 y (by split <;> simp [hy]), fun z hz hw => ?_, fun y hy => ?_⟩
        · rcases List.mem_cons.1 hz with rfl | hz
          · exact hx
          · exact h2 z hz hw
        · rcases h3 y hy with h4 | h4
          · split at h4
            · exact .inl h4
            · rcases List.mem_append.1 h4 with h5 | h5
              · exact .inl h5
              · rw [List.mem_singleton.1 h5]; exact .inr ⟨hnf, hne⟩
          · exact .inr h4
    · rw [if_neg c1] at h
      obtain ⟨h1, h2, h3⟩ := goAsk_spec t key wr firm r out out' h
      refine ⟨h1, fun z hz hw => ?_, h3⟩
      rcases List.mem_cons.1 hz with rfl | hz
      · exact absurd hw c1
      · exact h2 z hz hw
theorem inWay_sym (x y : S75) : inWayB y x.f1 x.f0 x.f2 = inWayB x y.f1 y.f0 y.f2 := by
  unfold inWayB
  rw [Bool.eq_iff_iff]
  simp only [Bool.and_eq_true, beq_iff_eq, Bool.not_eq_true', same_false, Bool.or_eq_true]
  constructor
  · rintro ⟨a, b, c⟩; exact ⟨a.symm, fun e => b e.symm, c.symm⟩
  · rintro ⟨a, b, c⟩; exact ⟨a.symm, fun e => b e.symm, c.symm⟩
theorem inWay_self (x : S75) (t : S30) (k : ByteArray) (w : Bool) (h : x.f1 = t) : inWayB x t k w = false := by
  unfold inWayB
  rw [same_iff.2 h]
  simp
theorem isHK_iff {t : S30} {key : ByteArray} {x : S75} : isHK t key x = true ↔ x.f1 = t ∧ x.f0.toList = key.toList := by
  unfold isHK
  rw [Bool.and_eq_true, same_iff, beq_iff_eq]
theorem findI_bang {α : Type} [Inhabited α] {p : α → Bool} {l : List α} {i : Nat} (hi : i < l.length) (h : findI p l = (i : Int)) : p (l[i]!) = true := by
  unfold findI at h
  by_cases c : l.findIdx p < l.length
  · rw [if_pos c] at h
    have := List.findIdx_getElem (w := c)
    have e : l.findIdx p = i := by omega
    rw [getElem!_pos l i hi]
    subst e
    exact this
  · rw [if_neg c] at h; omega
theorem findI_all {α : Type} {p : α → Bool} {l : List α} (h : ¬ 0 ≤ findI p l) : ∀ x ∈ l, p x = false := fun x hx => by
  cases hp : p x with
  | false => rfl
  | true =>
    exfalso
    apply h
    unfold findI
    rw [if_pos (List.findIdx_lt_length.2 ⟨x, hx, hp⟩)]
    omega
theorem findI_any {α : Type} {p : α → Bool} {l : List α} {x : α} (hx : x ∈ l) (hp : p x = true) : 0 ≤ findI p l := by
  unfold findI
  rw [if_pos (List.findIdx_lt_length.2 ⟨x, hx, hp⟩)]
  omega
theorem inWay_key {x : S75} {t : S30} {k k' : ByteArray} {w : Bool} (h : k.toList = k'.toList) : inWayB x t k w = inWayB x t k' w := by
  unfold inWayB
  rw [h]
structure AskGood (l : List S75) (t : S30) (key : ByteArray) (wr : Bool) (firm : List S30) (rh : List S75) (rw_ : List S30) : Prop where
  right : RightL rh
  len : rh.length ≤ 48
  me : t ∉ rw_
  firm : ∀ y ∈ rw_, y ∉ firm
  from_ : ∀ x ∈ rh, x.f1 = t ∨ (x ∈ l ∧ x.f1 ∉ rw_)
  keep : ∀ x ∈ l, x.f1 ∉ rw_ → ∃ y ∈ rh, y.f1 = x.f1 ∧ y.f0 = x.f0 ∧ (x.f2 = true → y.f2 = true)
  has : ∃ y ∈ rh, y.f1 = t ∧ y.f0.toList = key.toList ∧ (wr = true → y.f2 = true)
theorem askV_good (l : List S75) (t : S30) (key : ByteArray) (wr : Bool) (firm : List S30) (hl : RightL l) (h48 : l.length ≤ 48) {rh : List S75} {rw_ : List S30} (h : askV l t key wr firm = (rh, rw_, 0)) : AskGood l t key wr firm rh rw_ := by
  unfold askV at h
  split at h
  · rename_i hc
    cases h
    obtain ⟨i, hi, hf⟩ := qz56 _ _ hc.1
    have hp := isHK_iff.1 (findI_bang hi hf)
    refine ⟨hl, h48, by simp, by simp, fun x hx => .inr ⟨hx, by simp⟩, fun x hx _ => ⟨x, hx, rfl, rfl, id⟩, l[i]!, by rw [getElem!_pos l i hi]; exact List.getElem_mem hi, hp.1, hp.2, fun hw => ?_⟩
    have := hc.2
    unfold atI at this
    rw [hf, hw] at this
    simpa using this
  · rename_i hc
    cases hg : goAsk t key wr firm l [] with
    | none => rw [hg] at h; cases h
    | some out =>
      rw [hg] at h
      obtain ⟨_, hway, hout⟩ := goAsk_spec t key wr firm l [] out hg
      have hme : t ∉ out := fun hm => by
        rcases hout t hm with h1 | h1
        · cases h1
        · exact h1.2 rfl
      have hfirm : ∀ y ∈ out, y ∉ firm := fun y hy => by
        rcases hout y hy with h1 | h1
        · cases h1
        · exact h1.1
      have hmem : ∀ x, x ∈ restV l out ↔ x ∈ l ∧ x.f1 ∉ out := fun x => by
        unfold restV
        rw [List.mem_filter]
        constructor
        · rintro ⟨a, b⟩; exact ⟨a, by rw [Bool.not_eq_true'] at b; exact hasTx_not.1 b⟩
        · rintro ⟨a, b⟩; exact ⟨a, by rw [hasTx_not.2 b]; rfl⟩
      have hno : ∀ x ∈ restV l out, inWayB x t key wr = false := fun x hx => by
        obtain ⟨a, b⟩ := (hmem x).1 hx
        cases hw : inWayB x t key wr with
        | false => rfl
        | true => exact absurd (hway x a hw) b
      have hml : (restV l out).length ≤ l.length := List.length_filter_le _ _
      have hmr : RightL (restV l out) := hl.filter _
      unfold askFin at h
      dsimp only at h
      split at h
      · rename_i h0
        obtain ⟨i, hi, hf⟩ := qz56 _ _ h0
        have hp := isHK_iff.1 (findI_bang hi hf)
        have hwr : wr = true := by
          have h1 : 0 ≤ findI (isHK t key) l := findI_any ((hmem _).1 (show (restV l out)[i]! ∈ restV l out by rw [getElem!_pos _ i hi]; exact List.getElem_mem hi)).1 (findI_bang hi hf)
          cases wr with
          | true => rfl
          | false => exact absurd ⟨h1, by simp⟩ hc
        have hup : askUp (restV l out) t key = (restV l out).set i ⟨((restV l out)[i]!).f0, ((restV l out)[i]!).f1, true⟩ := by
          unfold askUp atI
          rw [hf]
          rfl
        rw [hup] at h
        obtain ⟨h1, h2⟩ := Prod.mk.inj h
        obtain ⟨h3, _⟩ := Prod.mk.inj h2
        subst h1
        subst h3
        generalize hm : restV l out = m at *
        have hv : ∀ y ∈ m.set i ⟨(m[i]!).f0, (m[i]!).f1, true⟩, y ∈ m ∨ y = ⟨(m[i]!).f0, (m[i]!).f1, true⟩ := fun y hy => List.mem_or_eq_of_mem_set hy
        have hin : (⟨(m[i]!).f0, (m[i]!).f1, true⟩ : S75) ∈ m.set i ⟨(m[i]!).f0, (m[i]!).f1, true⟩ := List.mem_iff_getElem.2 ⟨i, by rw [List.length_set]; exact hi, by rw [List.getElem_set_self]⟩
        have hno2 : ∀ y ∈ m, inWayB y (m[i]!).f1 (m[i]!).f0 true = false := fun y hy => by
          rw [hp.1, inWay_key hp.2, ← hwr]
          exact hno y hy
        refine ⟨⟨?_, fun x hx y hy => ?_⟩, by rw [List.length_set]; omega, hme, hfirm, fun x hx => ?_, fun x hx hxo => ?_, _, hin, hp.1, hp.2, fun _ => rfl⟩
        · rw [List.map_set]
          have e : (m.map (fun x => (x.f1, x.f0.toList))).set i ((m[i]!).f1, (m[i]!).f0.toList) = m.map (fun x => (x.f1, x.f0.toList)) := by
            have : ((m[i]!).f1, (m[i]!).f0.toList) = (m.map (fun x => (x.f1, x.f0.toList)))[i]'(by rw [List.length_map]; exact hi) := by rw [List.getElem_map, getElem!_pos m i hi]
            rw [this]
            exact List.set_getElem_self _
          rw [e]
          exact hmr.nd
        · rcases hv x hx with h1 | h1
          · rcases hv y hy with h2 | h2
            · exact hmr.way x h1 y h2
            · subst h2
              rw [inWay_sym]
              exact hno2 x h1
          · rcases hv y hy with h2 | h2
            · subst h1
              exact hno2 y h2
            · subst h1
              subst h2
              exact inWay_self _ _ _ _ rfl
        · rcases hv x hx with h1 | h1
          · exact .inr ((hmem x).1 h1)
          · subst h1; exact .inl hp.1
        · have hxm := (hmem x).2 ⟨hx, hxo⟩
          by_cases e : x = m[i]!
          · exact ⟨_, hin, by rw [e], by rw [e], fun _ => rfl⟩
          · obtain ⟨j, hj, rfl⟩ := List.mem_iff_getElem.1 hxm
            have hne : i ≠ j := fun e2 => e (by subst e2; rw [getElem!_pos m i hi])
            exact ⟨m[j], by rw [List.mem_iff_getElem]; exact ⟨j, by rw [List.length_set]; exact hj, by rw [List.getElem_set_ne hne]⟩, rfl, rfl, id⟩
      · rename_i h0
        split at h
        · cases h
        · rename_i h4
          obtain ⟨h1, h2⟩ := Prod.mk.inj h
          obtain ⟨h3, _⟩ := Prod.mk.inj h2
          subst h1
          subst h3
          have hnk := findI_all h0
          have hnew : ∀ x ∈ restV l out, inWayB x t key wr = false := hno
          refine ⟨⟨?_, fun x hx y hy => ?_⟩, by rw [List.length_append, List.length_singleton]; omega, hme, hfirm, fun x hx => ?_, fun x hx hxo => ⟨x, List.mem_append.2 (.inl ((hmem x).2 ⟨hx, hxo⟩)), rfl, rfl, id⟩, ⟨key, t, wr⟩, by simp, rfl, rfl, id⟩
          · rw [List.map_append, List.nodup_append]
            refine ⟨hmr.nd, by simp, fun a ha b hb e => ?_⟩
            obtain ⟨x, hx, rfl⟩ := List.mem_map.1 ha
            simp only [List.map_cons, List.map_nil, List.mem_singleton] at hb
            subst hb
            have := hnk x hx
            rw [isHK_iff.2 ⟨(Prod.mk.inj e).1, (Prod.mk.inj e).2⟩] at this
            cases this
          · rcases List.mem_append.1 hx with h1 | h1
            · rcases List.mem_append.1 hy with h2 | h2
              · exact hmr.way x h1 y h2
              · rw [List.mem_singleton.1 h2, inWay_sym]
                exact hnew x h1
            · rw [List.mem_singleton.1 h1]
              rcases List.mem_append.1 hy with h2 | h2
              · exact hnew y h2
              · rw [List.mem_singleton.1 h2]
                exact inWay_self _ _ _ _ rfl
          · rcases List.mem_append.1 hx with h1 | h1
            · exact .inr ((hmem x).1 h1)
            · rw [List.mem_singleton.1 h1]; exact .inl rfl
theorem hasV_iff {l : List S75} {t : S30} {k : ByteArray} {w : Bool} : hasV l t k w = true ↔ ∃ x ∈ l, x.f1 = t ∧ x.f0.toList = k.toList ∧ (w = true → x.f2 = true) := by
  unfold hasV okHas
  rw [List.any_eq_true]
  constructor
  · rintro ⟨x, hx, e⟩
    rw [Bool.and_eq_true, isHK_iff] at e
    exact ⟨x, hx, e.1.1, e.1.2, fun hw => by have := e.2; rw [hw] at this; simpa using this⟩
  · rintro ⟨x, hx, h1, h2, h3⟩
    refine ⟨x, hx, ?_⟩
    rw [Bool.and_eq_true, isHK_iff]
    refine ⟨⟨h1, h2⟩, ?_⟩
    cases w with
    | true => rw [h3 rfl]; rfl
    | false => simp
structure InvS (s : Shd) : Prop where
  rows : rightR s.rows = true
  locks : RightL s.holds
  n : s.opens.length + s.dones.length ≤ 64
  keys : keysV s.rows s.opens [] ≤ 32
  uniq : (s.opens.map (fun x => x.f0)).Nodup
  dun : (s.dones.map (fun x => x.f0)).Nodup
  apart : ∀ x ∈ s.opens, ∀ d ∈ s.dones, x.f0 ≠ d.f0
  wf : ∀ x ∈ s.opens, (x.f1 = true → x.f2 = false) ∧ (x.f1 = false → x.f3 = []) ∧ fitsV x.f3 = 0 ∧ ∀ p ∈ x.f3, hasV s.holds x.f0 p.f0 true = true
  held : ∀ h ∈ s.holds, ∃ x ∈ s.opens, x.f0 = h.f1 ∧ x.f2 = false
  h48 : s.holds.length ≤ 48
  okh : ∀ x ∈ s.holds, okTx x.f1
  oko : ∀ x ∈ s.opens, okTx x.f0
  ver0 : 0 ≤ s.ver
  verd : s.ver ≤ s.dones.length
theorem openCount_bound {os : List S48} (h : ∀ x ∈ os, fitsV x.f3 = 0) : qz59 os ≤ os.length * 8 := by
  unfold qz59
  induction os with
  | nil => simp
  | cons x r ih =>
    rw [List.map_cons, List.sum_cons, List.length_cons]
    have h1 := (fits_sizes (h x (List.mem_cons_self ..))).1
    have h2 := ih (fun y hy => h y (List.mem_cons_of_mem _ hy))
    omega
theorem InvS.ok {s : Shd} (h : InvS s) : ShdOk s := by
  obtain ⟨r1, r2, _⟩ := (rightR_iff _).1 h.rows
  have hn := h.n
  have h48 := h.h48
  have hc := openCount_bound (fun x hx => (h.wf x hx).2.2.1)
  refine ⟨⟨by omega, by omega, h.okh, h.oko⟩, ⟨by unfold maxLen; omega, fun r hr => ?_, fun x hx p hp => ?_⟩, by omega⟩
  · have := (r2 r hr).2.1
    unfold maxLen
    omega
  · have := ((fits_sizes (h.wf x hx).2.2.1).2 p hp).2.1
    unfold maxLen
    omega
theorem InvS.empty : InvS ⟨[], [], [], [], 0⟩ :=
  ⟨by decide, ⟨by simp, fun x hx => by cases hx⟩, by simp, by simp [keysV, rowKeys, qz42, qz52], by simp, by simp, (fun x hx => by cases hx), (fun x hx => by cases hx), (fun x hx => by cases hx), by simp, (fun x hx => by cases hx), (fun x hx => by cases hx), by simp, by simp⟩
theorem wound_f0 (rw_ : List S30) (x : S48) : (woundV rw_ x).f0 = x.f0 := by unfold woundV; split <;> rfl
theorem wound_f1 (rw_ : List S30) (x : S48) : (woundV rw_ x).f1 = x.f1 := by unfold woundV; split <;> rfl
theorem wound_f3 (rw_ : List S30) (x : S48) : (woundV rw_ x).f3 = x.f3 := by unfold woundV; split <;> rfl
theorem wound_not {rw_ : List S30} {x : S48} (h : x.f0 ∉ rw_) : woundV rw_ x = x := by unfold woundV; rw [hasTx_not.2 h]; rfl
theorem firmV_mem {os : List S48} {t : S30} : t ∈ firmV os ↔ ∃ x ∈ os, x.f1 = true ∧ x.f0 = t := by
  unfold firmV
  rw [List.mem_map]
  constructor
  · rintro ⟨x, hx, e⟩
    rw [List.mem_filter] at hx
    exact ⟨x, hx.1, hx.2, e⟩
  · rintro ⟨x, hx, h1, e⟩
    exact ⟨x, List.mem_filter.2 ⟨hx, h1⟩, e⟩
theorem known_iff {os : List S48} {t : S30} : 0 ≤ findI (qz16 t) os ↔ ∃ x ∈ os, x.f0 = t := by
  constructor
  · intro h
    obtain ⟨i, hi, hf⟩ := qz56 _ _ h
    refine ⟨os[i]!, by rw [getElem!_pos os i hi]; exact List.getElem_mem hi, ?_⟩
    exact same_iff.1 (findI_bang hi hf)
  · rintro ⟨x, hx, e⟩
    exact findI_any hx (same_iff.2 e)
theorem over_iff {ds : List S68} {t : S30} : 0 ≤ findI (qz25 t) ds ↔ ∃ x ∈ ds, x.f0 = t := by
  constructor
  · intro h
    obtain ⟨i, hi, hf⟩ := qz56 _ _ h
    refine ⟨ds[i]!, by rw [getElem!_pos ds i hi]; exact List.getElem_mem hi, ?_⟩
    exact same_iff.1 (findI_bang hi hf)
  · rintro ⟨x, hx, e⟩
    exact findI_any hx (same_iff.2 e)
theorem bang_mem {α : Type} [Inhabited α] {l : List α} {i : Nat} (h : i < l.length) : l[i]! ∈ l := by rw [getElem!_pos l i h]; exact List.getElem_mem h
theorem uniq_eq {α β : Type} {f : α → β} : ∀ {l : List α}, (l.map f).Nodup → ∀ x ∈ l, ∀ y ∈ l, f x = f y → x = y
  | [], _, x, hx, _, _, _ => by cases hx
  | z :: r, hn, x, hx, y, hy, e => by
    rw [List.map_cons, List.nodup_cons] at hn
    rcases List.mem_cons.1 hx with h1 | h1
    · rcases List.mem_cons.1 hy with h2 | h2
      · rw [h1, h2]
      · exact absurd (by rw [← h1, e]; exact List.mem_map.2 ⟨y, h2, rfl⟩) hn.1
    · rcases List.mem_cons.1 hy with h2 | h2
      · exact absurd (by rw [← h2, ← e]; exact List.mem_map.2 ⟨x, h1, rfl⟩) hn.1
      · exact uniq_eq hn.2 x h1 y h2 e
def asked (s : Shd) (t : S30) (rh : List S75) (rw_ : List S30) : Shd := ⟨s.rows, rh, s.opens.map (woundV rw_) ++ (if findI (qz16 t) s.opens < 0 then [⟨t, false, false, []⟩] else []), s.dones, s.ver⟩
theorem asked_mem {s : Shd} {t : S30} {rh : List S75} {rw_ : List S30} {x : S48} : x ∈ (asked s t rh rw_).opens ↔ (∃ y ∈ s.opens, woundV rw_ y = x) ∨ (findI (qz16 t) s.opens < 0 ∧ x = ⟨t, false, false, []⟩) := by
  unfold asked
  rw [List.mem_append, List.mem_map]
  split
  · rename_i h; simp [h]
  · rename_i h; simp [h]
theorem asks_cases (s : Shd) (kind : Int) (t : S30) (key : ByteArray) : ((asksV s kind t key).1 = s ∧ (asksV s kind t key).2.err ≠ 0) ∨
    (findI (qz25 t) s.dones < 0 ∧ 1 ≤ key.size ∧ key.size ≤ 16 ∧ (0 ≤ findI (qz16 t) s.opens → (s.opens[(findI (qz16 t) s.opens).toNat]!).f2 = false ∧ (s.opens[(findI (qz16 t) s.opens).toNat]!).f1 = false) ∧ (findI (qz16 t) s.opens < 0 → s.opens.length + s.dones.length < 64) ∧
      ∃ rh rw_, askV s.holds t key (kind == 2) (firmV s.opens) = (rh, rw_, 0) ∧ asksV s kind t key = (asked s t rh rw_, ⟨0, (getV s.rows key).2.1, if (getV s.rows key).2.2.2 = true then (getV s.rows key).2.2.1 else s.ver, (getV s.rows key).2.2.2, false⟩)) := by
  unfold asksV asked errA
  split
  · left; exact ⟨rfl, by dsimp only; decide⟩
  rename_i hd
  split
  · left; exact ⟨rfl, by dsimp only; decide⟩
  rename_i hk
  split
  · left; exact ⟨rfl, by dsimp only; decide⟩
  rename_i h2
  split
  · left; exact ⟨rfl, by dsimp only; decide⟩
  rename_i h1
  split
  · left; exact ⟨rfl, by dsimp only; decide⟩
  rename_i h6
  split
  · rename_i he; left; exact ⟨rfl, he⟩
  rename_i he
  right
  have he : (askV s.holds t key (kind == 2) (firmV s.opens)).2.2 = 0 := by simpa using he
  refine ⟨by omega, by omega, by omega, fun h => ⟨Bool.eq_false_iff.2 (fun e => h2 ⟨h, e⟩), Bool.eq_false_iff.2 (fun e => h1 ⟨h, e⟩)⟩, fun h => by omega, _, _, ?_, rfl⟩
  rw [← he]
theorem InvS.asked {s : Shd} (h : InvS s) {t : S30} {key : ByteArray} {wr : Bool} {rh : List S75} {rw_ : List S30} (hok : okTx t) (hd : findI (qz25 t) s.dones < 0) (hk2 : 0 ≤ findI (qz16 t) s.opens → (s.opens[(findI (qz16 t) s.opens).toNat]!).f2 = false) (hn : findI (qz16 t) s.opens < 0 → s.opens.length + s.dones.length < 64)
    (ha : askV s.holds t key wr (firmV s.opens) = (rh, rw_, 0)) : InvS (PAll.asked s t rh rw_) := by
  have g := askV_good s.holds t key wr (firmV s.opens) h.locks h.h48 ha
  have hfirm : ∀ x ∈ s.opens, x.f1 = true → x.f0 ∉ rw_ := fun x hx h1 hm => g.firm _ hm (firmV_mem.2 ⟨x, hx, h1, rfl⟩)
  have hmap0 : (s.opens.map (woundV rw_)).map (fun x => x.f0) = s.opens.map (fun x => x.f0) := by
    rw [List.map_map]
    exact List.map_congr_left (fun x _ => wound_f0 rw_ x)
  have hnew : findI (qz16 t) s.opens < 0 → ∀ x ∈ s.opens, x.f0 ≠ t := fun hf x hx e => by have := known_iff.2 ⟨x, hx, e⟩; omega
  have hdn : ∀ d ∈ s.dones, t ≠ d.f0 := fun d hd' e => by have := over_iff.2 ⟨d, hd', e.symm⟩; omega
  refine ⟨h.rows, g.right, ?_, ?_, ?_, h.dun, ?_, ?_, ?_, g.len, ?_, ?_, h.ver0, h.verd⟩
  · have := h.n
    unfold PAll.asked
    dsimp only
    rw [List.length_append, List.length_map]
    split
    · rename_i hf; have := hn hf; simp; omega
    · simp; omega
  · refine Nat.le_trans (keysV_le (fun k hk => ?_)) h.keys
    rcases hk with hk | ⟨x, hx, h1, p, hp, h2, h3⟩ | ⟨p, hp, _⟩
    · exact .inl hk
    · rcases asked_mem.1 hx with ⟨y, hy, rfl⟩ | ⟨_, rfl⟩
      · exact .inr (.inl ⟨y, hy, by rw [← h1, wound_f1], p, by rw [← wound_f3 rw_ y]; exact hp, h2, h3⟩)
      · cases hp
    · cases hp
  · unfold PAll.asked
    dsimp only
    rw [List.map_append, hmap0, List.nodup_append]
    refine ⟨h.uniq, by split <;> simp, fun a ha b hb e => ?_⟩
    obtain ⟨x, hx, rfl⟩ := List.mem_map.1 ha
    split at hb
    · rename_i hf
      simp at hb
      exact hnew hf x hx (e.trans hb)
    · simp at hb
  · intro x hx d hd'
    rcases asked_mem.1 hx with ⟨y, hy, rfl⟩ | ⟨_, rfl⟩
    · rw [wound_f0]; exact h.apart y hy d hd'
    · exact hdn d hd'
  · intro x hx
    rcases asked_mem.1 hx with ⟨y, hy, rfl⟩ | ⟨_, rfl⟩
    · obtain ⟨w1, w2, w3, w4⟩ := h.wf y hy
      refine ⟨fun h1 => ?_, fun h1 => ?_, by rw [wound_f3]; exact w3, fun p hp => ?_⟩
      · rw [wound_f1] at h1
        rw [wound_not (hfirm y hy h1)]
        exact w1 h1
      · rw [wound_f1] at h1
        rw [wound_f3]
        exact w2 h1
      · rw [wound_f3] at hp
        rw [wound_f0]
        have h1 : y.f1 = true := by
          cases hf : y.f1 with
          | true => rfl
          | false => rw [w2 hf] at hp; cases hp
        obtain ⟨z, hz, z1, z2, z3⟩ := hasV_iff.1 (w4 p hp)
        obtain ⟨u, hu, u1, u2, u3⟩ := g.keep z hz (by rw [z1]; exact hfirm y hy h1)
        exact hasV_iff.2 ⟨u, hu, u1.trans z1, by rw [u2]; exact z2, fun hw => u3 (z3 hw)⟩
    · exact ⟨(fun e => by cases e), fun _ => rfl, (by show fitsV [] = 0; decide), fun p hp => by cases hp⟩
  · intro x hx
    rcases g.from_ x hx with h1 | ⟨h1, h2⟩
    · rcases Int.lt_or_le (findI (qz16 t) s.opens) 0 with hf | hf
      · exact ⟨⟨t, false, false, []⟩, asked_mem.2 (.inr ⟨hf, rfl⟩), h1.symm, rfl⟩
      · obtain ⟨i, hi, he⟩ := qz56 _ _ hf
        have e0 : (s.opens[i]!).f0 = t := same_iff.1 (findI_bang (p := qz16 t) hi he)
        have e2 := hk2 hf
        rw [he, Int.toNat_natCast] at e2
        exact ⟨_, asked_mem.2 (.inl ⟨s.opens[i]!, bang_mem hi, wound_not (by rw [e0]; exact g.me)⟩), by rw [e0, h1], e2⟩
    · obtain ⟨y, hy, y1, y2⟩ := h.held x h1
      exact ⟨_, asked_mem.2 (.inl ⟨y, hy, wound_not (by rw [y1]; exact h2)⟩), y1, y2⟩
  · intro x hx
    rcases g.from_ x hx with h1 | ⟨h1, h2⟩
    · rw [h1]; exact hok
    · exact h.okh x h1
  · intro x hx
    rcases asked_mem.1 hx with ⟨y, hy, rfl⟩ | ⟨_, rfl⟩
    · rw [wound_f0]; exact h.oko y hy
    · exact hok
end Go.Proofs.Ytmcgcdpiceikeaa.PAll
end
