/- Joined texts of the claim DriveSteps (part 42): contracts of functions and plain laws. -/
import Derived.BigQuiet
import Derived.ChangeAlike
import Derived.Deep.QuietTactic
import Derived.RegionTactic
import Derived.Test.YtkennobdoldlkaaJDriveSteps15
import Derived.Test.YtkennobdoldlkaaJDriveSteps31
import Derived.Test.YtkennobdoldlkaaJDriveSteps38
import Derived.Test.YtkennobdoldlkaaJDriveSteps40
import Derived.Test.YtkennobdoldlkaaJDriveSteps41
set_option linter.unusedVariables false
set_option linter.unusedSimpArgs false
section
namespace Go.Proofs.Ytkennobdoldlkaa.PAll
open Go.RowKit Go.Proofs.YtkennobdoldlkaaW.PrintWords Go.Proofs.Ytkennobdoldlkaa
theorem rd_intP (l : List Int) (j : Nat) (hj : j < l.length) : rd l (j : Int) = l[j]! := by
  simp [rd, List.getD_eq_getElem?_getD, List.getElem?_eq_getElem hj, getElem!_pos l j hj]
theorem rd_stepP (l : List S53) (j : Nat) (hj : j < l.length) : qz7 l (j : Int) = l[j]! := by
  simp [qz7, List.getD_eq_getElem?_getD, List.getElem?_eq_getElem hj, getElem!_pos l j hj]
theorem rd_putP (l : List S74) (j : Nat) (hj : j < l.length) : qz18 l (j : Int) = l[j]! := by
  simp [qz18, List.getD_eq_getElem?_getD, List.getElem?_eq_getElem hj, getElem!_pos l j hj]
theorem wrapUpP (j : Nat) (h : j < 9223372036854775807) : wrap64 ((j : Int) + 1) = ((j + 1 : Nat) : Int) := by unfold wrap64; omega
theorem toList_injP {x y : ByteArray} (h : x.toList = y.toList) : x = y := by
  rw [ByteArray.toList_eq, ByteArray.toList_eq] at h
  exact ByteArray.ext (Array.ext' h)
theorem insU_skip (g : Int) (b : List Int) : ∀ a : List Int, (∀ x ∈ a, x < g) → insU (a ++ b) g = a ++ insU b g
  | [], _ => rfl
  | x :: r, h => by
    show (if x < g then x :: insU (r ++ b) g else if x = g then x :: (r ++ b) else g :: x :: (r ++ b)) = x :: (r ++ insU b g)
    rw [if_pos (h x (List.mem_cons_self ..)), insU_skip g b r (fun y hy => h y (List.mem_cons_of_mem _ hy))]
theorem take_less {L : List Int} {g : Int} {j : Nat} (h : ∀ k, k < j → k < L.length → L[k]! < g) : ∀ x ∈ L.take j, x < g := by
  intro x hx
  obtain ⟨k, hk, rfl⟩ := List.mem_iff_getElem.1 hx
  rw [List.length_take] at hk
  have := h k (by omega) (by omega)
  rw [getElem!_pos L k (by omega)] at this
  rw [List.getElem_take]
  exact this
theorem insU_at {L : List Int} {g : Int} {j : Nat} (hj : j ≤ L.length) (h : ∀ k, k < j → k < L.length → L[k]! < g) (hn : ∀ h : j < L.length, g < L[j]!) : insU L g = L.take j ++ [g] ++ L.drop j := by
  have e := insU_skip g (L.drop j) (L.take j) (take_less h)
  rw [List.take_append_drop] at e
  rw [e, List.append_assoc]
  congr 1
  by_cases hl : j < L.length
  · rw [List.drop_eq_getElem_cons hl]
    have := hn hl
    rw [getElem!_pos L j hl] at this
    unfold insU
    rw [if_neg (by omega), if_neg (by omega)]
    rfl
  · rw [List.drop_eq_nil_of_le (by omega)]; rfl
theorem insU_has {L : List Int} {g : Int} {j : Nat} (hj : j < L.length) (h : ∀ k, k < j → k < L.length → L[k]! < g) (he : L[j]! = g) : insU L g = L := by
  have e := insU_skip g (L.drop j) (L.take j) (take_less h)
  rw [List.take_append_drop] at e
  rw [e]
  conv => rhs; rw [← List.take_append_drop j L]
  congr 1
  rw [List.drop_eq_getElem_cons hj]
  rw [getElem!_pos L j hj] at he
  unfold insU
  rw [if_neg (by omega), if_pos he]
theorem insU_len (g : Int) : ∀ l : List Int, (insU l g).length ≤ l.length + 1
  | [] => by simp [insU]
  | a :: r => by
    unfold insU
    split
    · have := insU_len g r; simp; omega
    · split <;> simp
theorem partsV_next (st : List S53) (i : Nat) (hi : i < st.length) : qz20 (st.take (i + 1)) = insU (qz20 (st.take i)) (st[i]!).f0 := by
  unfold qz20
  rw [List.take_succ_eq_append_getElem hi, List.map_append, List.foldl_append, getElem!_pos st i hi]
  rfl
theorem partsV_len (st : List S53) : ∀ i, i ≤ st.length → (qz20 (st.take i)).length ≤ i
  | 0, _ => by simp [qz20]
  | i + 1, h => by
    rw [partsV_next st i (by omega)]
    have := insU_len (st[i]!).f0 (qz20 (st.take i))
    have := partsV_len st i (by omega)
    omega
theorem refParts_l1 (ta ti : Int) (st : List S53) (L : List Int) (i : Nat) (g : Int) (hL : L.length ≤ 3000000000000) (hi : i < 9223372036854775806) (r : List Int)
    (hk : Ev (fun q => ferruleref20_Parts.l0 q (insU L g) ((i + 1 : Nat) : Int) ta ti st) r) : ∀ (d j : Nat), d = L.length - j → j ≤ L.length → (∀ k, k < j → k < L.length → L[k]! < g) →
    Ev (fun q => ferruleref20_Parts.l1 q L (i : Int) g (j : Int) ta ti st) r := by
  have hw := wrapUpP i (by omega)
  have hfin : ∀ (j : Nat), j ≤ L.length → (∀ k, k < j → k < L.length → L[k]! < g) → (∀ h : j < L.length, g < L[j]!) → Ev (fun q => ferruleref20_Parts.l0 q (([] ++ L.take ((j : Int)).toNat ++ [g]) ++ L.drop ((j : Int)).toNat) ((i + 1 : Nat) : Int) ta ti st) r := by
    intro j hj h hn
    have e : ([] ++ L.take ((j : Int)).toNat ++ [g]) ++ L.drop ((j : Int)).toNat = insU L g := by rw [insU_at hj h hn, Int.toNat_natCast, List.nil_append]
    rw [e]
    exact hk
  intro d
  induction d with
  | zero =>
    intro j hd hj h
    refine Ev.step (fun q => ?_) (hfin j hj h (fun hl => by omega))
    simp only [ferruleref20_Parts.l1, Option.bind_some]
    rw [if_neg (show ¬ (j : Int) < L.length by omega), if_pos (show (0 : Int) ≤ j by omega), if_pos (show (j : Int) ≤ L.length by omega), if_pos (by simp; omega), if_pos (by simp; omega), if_pos (by simp; omega), hw]
  | succ d ih =>
    intro j hd hj h
    have hlt : j < L.length := by omega
    by_cases c1 : L[j]! < g
    · refine Ev.step (fun q => ?_) (ih (j + 1) (by omega) (by omega) (fun k h1 h2 => ?_))
      · simp only [ferruleref20_Parts.l1]
        rw [if_pos (show (j : Int) < L.length by omega), if_pos (show (0 : Int) ≤ j by omega), rd_intP L j hlt, if_pos c1, wrapUpP j (by omega)]
      · by_cases e : k = j
        · rw [e]; exact c1
        · exact h k (by omega) h2
    · by_cases c2 : L[j]! = g
      · rw [insU_has hlt h c2] at hk
        refine Ev.step (fun q => ?_) hk
        simp only [ferruleref20_Parts.l1]
        rw [if_pos (show (j : Int) < L.length by omega), if_pos (show (0 : Int) ≤ j by omega), rd_intP L j hlt, if_neg c1, if_pos c2, hw]
      · refine Ev.step (fun q => ?_) (hfin j hj h (fun hl => by omega))
        simp only [ferruleref20_Parts.l1, Option.bind_some]
        rw [if_pos (show (j : Int) < L.length by omega), if_pos (show (0 : Int) ≤ j by omega), rd_intP L j hlt, if_neg c1, if_neg c2, if_pos (show (j : Int) ≤ L.length by omega), if_pos (by simp; omega), if_pos (by simp; omega), if_pos (by simp; omega), hw]
theorem refParts_l0 (ta ti : Int) (st : List S53) (hl : st.length ≤ 3000000000000) : ∀ (d i : Nat), d = st.length - i → i ≤ st.length → Ev (fun q => ferruleref20_Parts.l0 q (qz20 (st.take i)) (i : Int) ta ti st) (qz20 st) := by
  intro d
  induction d with
  | zero =>
    intro i hd hi
    refine Ev.step (f := fun _ => some (qz20 st)) (fun q => ?_) (Ev.now _)
    simp only [ferruleref20_Parts.l0]
    rw [if_neg (show ¬ (i : Int) < st.length by omega), List.take_of_length_le (by omega)]
  | succ d ih =>
    intro i hd hi
    have hlt : i < st.length := by omega
    have hp := partsV_len st i hi
    have hn := ih (i + 1) (by omega) (by omega)
    rw [partsV_next st i hlt] at hn
    refine Ev.step (fun q => ?_) (refParts_l1 ta ti st (qz20 (st.take i)) i (st[i]!).f0 (by omega) (by omega) (qz20 st) hn _ 0 rfl (Nat.zero_le _) (fun k h => absurd h (by omega)))
    simp only [ferruleref20_Parts.l0]
    rw [if_pos (show (i : Int) < st.length by omega), if_pos (show (0 : Int) ≤ i by omega), rd_stepP st i hlt]
    rfl
theorem refParts_ev (ta ti : Int) (st : List S53) (hl : st.length ≤ 3000000000000) : Ev (fun q => ferruleref20_Parts.f q ta ti st) (qz20 st) := by
  have h := refParts_l0 ta ti st hl _ 0 rfl (Nat.zero_le _)
  exact h
def putKeys (l : List S74) : List (List UInt8) := l.map (fun x => x.f0.toList)
theorem findI_key {l : List S74} {key : ByteArray} (h : 0 ≤ findI (keyIs key) l) : ∃ i : Nat, i < l.length ∧ findI (keyIs key) l = i ∧ (l[i]!).f0 = key := by
  obtain ⟨i, hi, e⟩ := findI_range20 _ _ h
  refine ⟨i, hi, e, ?_⟩
  unfold findI at e
  split at e
  · rename_i hlt
    have he : l.findIdx (keyIs key) = i := by omega
    have := List.findIdx_getElem (xs := l) (p := keyIs key) (w := hlt)
    simp only [he] at this
    unfold keyIs at this
    rw [getElem!_pos l i hi]
    exact toList_injP (beq_iff_eq.1 this)
  · omega
theorem findI_no20 {l : List S74} {key : ByteArray} (h : ¬ 0 ≤ findI (keyIs key) l) : ∀ x ∈ l, x.f0.toList ≠ key.toList := by
  intro x hx e
  apply h
  unfold findI
  rw [if_pos (List.findIdx_lt_length_of_exists ⟨x, hx, by unfold keyIs; rw [e]; simp⟩)]
  omega
theorem putU_nodup {l : List S74} (h : (putKeys l).Nodup) (s : S53) : (putKeys (putU l s)).Nodup := by
  unfold putU
  by_cases c : 0 ≤ findI (keyIs s.f1) l
  · rw [if_pos c]
    obtain ⟨i, hi, e, hk⟩ := findI_key c
    rw [e, Int.toNat_natCast]
    have : putKeys (l.set i (putOf s)) = putKeys l := by
      unfold putKeys
      rw [List.map_set]
      apply List.ext_getElem
      · simp
      · intro k h1 h2
        rw [List.getElem_set]
        split
        · rename_i hik
          subst hik
          rw [getElem!_pos l i hi] at hk
          rw [List.getElem_map, hk]
          rfl
        · rfl
    rw [this]; exact h
  · rw [if_neg c]
    unfold putKeys at *
    rw [List.map_append, List.nodup_append]
    refine ⟨h, by simp, fun a ha b hb => ?_⟩
    obtain ⟨x, hx, rfl⟩ := List.mem_map.1 ha
    simp at hb
    subst hb
    exact findI_no20 c x hx
theorem putsFold_nodup (l : List S53) : ∀ out : List S74, (putKeys out).Nodup → (putKeys (l.foldl putU out)).Nodup := by
  induction l with
  | nil => exact fun _ h => h
  | cons s r ih => exact fun out h => ih _ (putU_nodup h s)
theorem putsV_nodup (l : List S53) (g : Int) : (putKeys (putsV l g)).Nodup := putsFold_nodup _ [] List.nodup_nil
theorem putsV_len20 (l : List S53) (g : Int) : ∀ i, i ≤ l.length → (putsV (l.take i) g).length ≤ i
  | 0, _ => by simp [putsV]
  | i + 1, h => by
    rw [putsV_take l g i (by omega)]
    have := putsV_len20 l g i (by omega)
    split
    · have := putU_len (putsV (l.take i) g) l[i]!; omega
    · omega
theorem refPuts_l1f (g ta ti : Int) (st : List S53) (i : Nat) (hi : i < 9223372036854775806) (P : List S74) (hP : P.length ≤ 3000000000000) (s0 : Int) (s1 s2 : ByteArray) (s3 s4 : Bool) (r : List S74)
    (hk : Ev (fun q => ferruleref20_Puts.l0 q g P ((i + 1 : Nat) : Int) ta ti st) r) : ∀ (d j : Nat), d = P.length - j → j ≤ P.length → (∀ k, j ≤ k → k < P.length → (P[k]!).f0.toList ≠ s1.toList) →
    Ev (fun q => ferruleref20_Puts.l1 q g P (i : Int) true (j : Int) ta ti st s0 s1 s2 s3 s4) r := by
  intro d
  induction d with
  | zero =>
    intro j hd hj h
    refine Ev.step (fun q => ?_) hk
    simp only [ferruleref20_Puts.l1]
    rw [if_neg (show ¬ (j : Int) < P.length by omega), if_pos trivial, wrapUpP i (by omega)]
  | succ d ih =>
    intro j hd hj h
    have hlt : j < P.length := by omega
    refine Ev.step (fun q => ?_) (ih (j + 1) (by omega) (by omega) (fun k h1 h2 => h k (by omega) h2))
    simp only [ferruleref20_Puts.l1]
    rw [if_pos (show (j : Int) < P.length by omega), if_pos (show (0 : Int) ≤ j by omega), rd_putP P j hlt, if_neg (h j (Nat.le_refl _) hlt), wrapUpP j (by omega)]
theorem putKeys_at {P : List S74} (h : (putKeys P).Nodup) {j k : Nat} (hj : j < P.length) (hk : k < P.length) (e : (P[j]!).f0.toList = (P[k]!).f0.toList) : j = k := by
  rw [getElem!_pos P j hj, getElem!_pos P k hk] at e
  unfold putKeys at h
  have h1 : (P.map (fun x => x.f0.toList))[j]'(by simpa using hj) = (P.map (fun x => x.f0.toList))[k]'(by simpa using hk) := by simpa using e
  exact (List.getElem_inj h).1 h1
theorem refPuts_l1 (g ta ti : Int) (st : List S53) (i : Nat) (hi : i < 9223372036854775806) (P : List S74) (hP : P.length ≤ 3000000000000) (hn : (putKeys P).Nodup) (s : S53) (r : List S74)
    (hk : Ev (fun q => ferruleref20_Puts.l0 q g (putU P s) ((i + 1 : Nat) : Int) ta ti st) r) : ∀ (d j : Nat), d = P.length - j → j ≤ P.length → (∀ k, k < j → k < P.length → keyIs s.f1 (P[k]!) = false) →
    Ev (fun q => ferruleref20_Puts.l1 q g P (i : Int) false (j : Int) ta ti st s.f0 s.f1 s.f2 s.f3 s.f4) r := by
  intro d
  induction d with
  | zero =>
    intro j hd hj h
    have hm : findI (keyIs s.f1) P = -1 := findI_miss _ _ (fun k hk => h k (by omega) hk)
    unfold putU at hk
    rw [hm, if_neg (by decide)] at hk
    refine Ev.step (fun q => ?_) hk
    simp only [ferruleref20_Puts.l1]
    rw [if_neg (show ¬ (j : Int) < P.length by omega), if_neg (by decide), if_pos (by omega), wrapUpP i (by omega)]
    rfl
  | succ d ih =>
    intro j hd hj h
    have hlt : j < P.length := by omega
    by_cases c : (P[j]!).f0.toList = s.f1.toList
    · have hm : findI (keyIs s.f1) P = (j : Int) := findI_hit _ _ j hlt (by unfold keyIs; rw [c]; simp) (fun k hk => h k hk (by omega))
      have hu : putU P s = P.set j (putOf s) := by unfold putU; rw [hm, if_pos (by omega), Int.toNat_natCast]
      have hq : (P[j]!).f0 = s.f1 := toList_injP c
      rw [hu] at hk
      have hlen : (P.set j (putOf s)).length = P.length := List.length_set
      have hbang : ∀ (X : List S74) (y : S74) (hx : j < X.length), ((X.set j y))[j]! = y := fun X y hx => by rw [getElem!_pos _ _ (by simpa using hx)]; simp
      refine Ev.step (fun q => ?_) (refPuts_l1f g ta ti st i hi (P.set j (putOf s)) (by omega) s.f0 s.f1 s.f2 s.f3 s.f4 r hk (P.length - (j + 1)) (j + 1) (by omega) (by omega) (fun k h1 h2 => ?_))
      · simp only [ferruleref20_Puts.l1, Option.bind_some]
        rw [if_pos (show (j : Int) < P.length by omega), if_pos (show (0 : Int) ≤ j by omega), rd_putP P j hlt, if_pos c, Int.toNat_natCast, rd_putP _ j (by simpa using hlt), hbang P _ hlt, List.set_set, hq, wrapUpP j (by omega)]
        rfl
      · intro e
        rw [hlen] at h2
        have hk2 : (P.set j (putOf s))[k]! = P[k]! := by
          rw [getElem!_pos (P.set j (putOf s)) k (by simpa using h2), getElem!_pos P k h2, List.getElem_set_ne (by omega)]
        rw [hk2, ← c] at e
        have := putKeys_at hn h2 hlt e
        omega
    · refine Ev.step (fun q => ?_) (ih (j + 1) (by omega) (by omega) (fun k h1 h2 => ?_))
      · simp only [ferruleref20_Puts.l1]
        rw [if_pos (show (j : Int) < P.length by omega), if_pos (show (0 : Int) ≤ j by omega), rd_putP P j hlt, if_neg c, wrapUpP j (by omega)]
      · by_cases e : k = j
        · rw [e]; unfold keyIs; exact beq_eq_false_iff_ne.2 c
        · exact h k (by omega) h2
theorem refPuts_l0 (ta ti : Int) (st : List S53) (g : Int) (hl : st.length ≤ 3000000000000) : ∀ (d i : Nat), d = st.length - i → i ≤ st.length → Ev (fun q => ferruleref20_Puts.l0 q g (putsV (st.take i) g) (i : Int) ta ti st) (putsV st g) := by
  intro d
  induction d with
  | zero =>
    intro i hd hi
    refine Ev.step (f := fun _ => some (putsV st g)) (fun q => ?_) (Ev.now _)
    simp only [ferruleref20_Puts.l0]
    rw [if_neg (show ¬ (i : Int) < st.length by omega), List.take_of_length_le (by omega)]
  | succ d ih =>
    intro i hd hi
    have hlt : i < st.length := by omega
    have hn := ih (i + 1) (by omega) (by omega)
    rw [putsV_take st g i hlt] at hn
    have hle := putsV_len20 st g i hi
    have hnd := putsV_nodup (st.take i) g
    generalize putsV (st.take i) g = P at *
    generalize hs : st[i]! = s at *
    have hskip : Ev (fun q => ferruleref20_Puts.l0 q g P ((i + 1 : Nat) : Int) ta ti st) (putsV st g) → Ev (fun q => ferruleref20_Puts.j1 q g P (i : Int) true ta ti st s.f0 s.f1 s.f2 s.f3 s.f4) (putsV st g) := fun h => by
      refine Ev.step (fun q => ?_) h
      simp only [ferruleref20_Puts.j1]
      rw [if_pos trivial, wrapUpP i (by omega)]
    by_cases c : s.f0 = g
    · refine Ev.step (f := fun q => ferruleref20_Puts.j1 q g P (i : Int) (!s.f3) ta ti st s.f0 s.f1 s.f2 s.f3 s.f4) (fun q => ?_) ?_
      · simp only [ferruleref20_Puts.l0]
        rw [if_pos (show (i : Int) < st.length by omega), if_pos (show (0 : Int) ≤ i by omega), rd_stepP st i hlt, hs, if_pos c]
      · cases h3 : s.f3 with
        | false =>
          rw [h3, Bool.and_false, if_neg (by decide)] at hn
          have := hskip hn
          rw [h3] at this
          exact this
        | true =>
          rw [h3, beq_iff_eq.2 c, Bool.and_true, if_pos rfl] at hn
          refine Ev.step (fun q => ?_) (refPuts_l1 g ta ti st i (by omega) P (by omega) hnd s (putsV st g) hn _ 0 rfl (Nat.zero_le _) (fun k h => absurd h (by omega)))
          simp only [ferruleref20_Puts.j1]
          rw [if_neg (by decide), h3]
          rfl
    · rw [beq_eq_false_iff_ne.2 c, Bool.false_and, if_neg (by decide)] at hn
      refine Ev.step (fun q => ?_) (hskip hn)
      simp only [ferruleref20_Puts.l0]
      rw [if_pos (show (i : Int) < st.length by omega), if_pos (show (0 : Int) ≤ i by omega), rd_stepP st i hlt, hs, if_neg c]
theorem refPuts_ev (ta ti : Int) (st : List S53) (g : Int) (hl : st.length ≤ 3000000000000) : Ev (fun q => ferruleref20_Puts.f q ta ti st g) (putsV st g) :=
  refPuts_l0 ta ti st g hl _ 0 rfl (Nat.zero_le _)
end Go.Proofs.Ytkennobdoldlkaa.PAll
end
section
namespace Go.Proofs.Ytkennobdoldlkaa.PAll
open Go.RowKit Go.Proofs.YtkennobdoldlkaaW.PrintWords Go.Proofs.YtkennobdoldlkaaW.PrintLast Go.Proofs.YtkennobdoldlkaaW.PrintMore
attribute [local go_sem] qz51 qz52 max_two min_two qz45 qz46 qz53 qz54
theorem eqA24 (d : Nat) (w : World) (x0 y0 : Int) (x1 y1 : Int) :
    (Op.equalIn (d + 2) 24 (.agg #[.int .u64 x0, .int .u64 x1]) (.agg #[.int .u64 y0, .int .u64 y1])).run Try.prog w = .ok (x0 == y0 && (x1 == y1)) w := by
  refine eqA_of Try.underlying24 (by kernel_rfl) ?_
  refine eqf_cons (by rfl) (by go_simp; rfl) (by go_simp; rfl) (by go_simp) ?_
  exact eqf_last (by rfl) (by go_simp; rfl) (by go_simp; rfl) (by go_simp)
attribute [local go_sem] qz51 qz52 max_two min_two qz45 qz46 qz53 qz54
theorem eqA51 (d : Nat) (w : World) (x0 y0 : Int) (x1 y1 : ByteArray) (x2 y2 : ByteArray) (x3 y3 : Int) (x4 y4 : Bool) :
    (Op.equalIn (d + 2) 51 (.agg #[.int .u64 x0, .string x1, .string x2, .int .u64 x3, .bool x4]) (.agg #[.int .u64 y0, .string y1, .string y2, .int .u64 y3, .bool y4])).run Try.prog w = .ok (x0 == y0 && (x1.toList == y1.toList && (x2.toList == y2.toList && (x3 == y3 && (x4 == y4))))) w := by
  refine eqA_of Try.underlying51 (by kernel_rfl) ?_
  refine eqf_cons (by rfl) (by go_simp; rfl) (by go_simp; rfl) (by go_simp) ?_
  refine eqf_cons (by rfl) (by go_simp; rfl) (by go_simp; rfl) (by go_simp) ?_
  refine eqf_cons (by rfl) (by go_simp; rfl) (by go_simp; rfl) (by go_simp) ?_
  refine eqf_cons (by rfl) (by go_simp; rfl) (by go_simp; rfl) (by go_simp) ?_
  exact eqf_last (by rfl) (by go_simp; rfl) (by go_simp; rfl) (by go_simp)
attribute [local go_sem] qz51 qz52 max_two min_two qz45 qz46 qz53 qz54
theorem eqA53 (d : Nat) (w : World) (x0 y0 : Int) (x1 y1 : ByteArray) (x2 y2 : ByteArray) (x3 y3 : Bool) (x4 y4 : Bool) :
    (Op.equalIn (d + 2) 53 (.agg #[.int .u64 x0, .string x1, .string x2, .bool x3, .bool x4]) (.agg #[.int .u64 y0, .string y1, .string y2, .bool y3, .bool y4])).run Try.prog w = .ok (x0 == y0 && (x1.toList == y1.toList && (x2.toList == y2.toList && (x3 == y3 && (x4 == y4))))) w := by
  refine eqA_of Try.underlying53 (by kernel_rfl) ?_
  refine eqf_cons (by rfl) (by go_simp; rfl) (by go_simp; rfl) (by go_simp) ?_
  refine eqf_cons (by rfl) (by go_simp; rfl) (by go_simp; rfl) (by go_simp) ?_
  refine eqf_cons (by rfl) (by go_simp; rfl) (by go_simp; rfl) (by go_simp) ?_
  refine eqf_cons (by rfl) (by go_simp; rfl) (by go_simp; rfl) (by go_simp) ?_
  exact eqf_last (by rfl) (by go_simp; rfl) (by go_simp; rfl) (by go_simp)
end Go.Proofs.Ytkennobdoldlkaa.PAll
end
