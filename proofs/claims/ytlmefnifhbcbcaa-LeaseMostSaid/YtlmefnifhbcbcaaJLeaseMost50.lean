/- Joined texts of the claim LeaseMost (part 50): contracts of functions and plain laws. -/
import Derived.Test.YtlmefnifhbcbcaaJLeaseMost48
import Derived.Test.YtlmefnifhbcbcaaJLeaseMost49
section
/- Every configuration, every marks, every numbers: whoever holds a lease has heard of a majority within the span. -/
namespace Go.Proofs.Ytlmefnifhbcbcaa.PAll
open Go.RowKit Go.Proofs.YtlmefnifhbcbcaaW.PrintWords Go.Proofs.YtlmefnifhbcbcaaW.PrintMore Go.Proofs.Ytlmefnifhbcbcaa
set_option linter.unusedVariables false
/-- Is a node's first ack within the span? -/
def ackV (id now span : Int) : List S39 → Bool
  | [] => false
  | x :: r => if x.f0 = id then decide (x.f1 > now) || decide (IntKind.u64.wrap (now - x.f1) < span) else ackV id now span r
theorem ackV_cons (id now span : Int) (x : S39) (r : List S39) : ackV id now span (x :: r) = if x.f0 = id then decide (x.f1 > now) || decide (IntKind.u64.wrap (now - x.f1) < span) else ackV id now span r := rfl
theorem ackV_of {id now span a : Int} (ha : 0 < a) (hn : now < 18446744073709551616) (hs : ∀ N, a ≤ N → N ≤ now → now - N < span) : ∀ m : List S39, natM m = true → a ≤ markV m id → ackV id now span m = true
  | [], _, h => by rw [markV_nil] at h; omega
  | x :: r, hm, h => by
    unfold natM at hm
    rw [List.all_cons, Bool.and_eq_true] at hm
    have hx := of_decide_eq_true hm.1
    rw [markV_cons] at h
    unfold ackV
    split
    · rename_i c
      rw [if_pos c] at h
      by_cases c2 : x.f1 > now
      · rw [decide_eq_true c2]; rfl
      · have := hs x.f1 h (by omega)
        rw [decide_eq_true (show IntKind.u64.wrap (now - x.f1) < span by rw [IntKind.wrap_u64]; omega), Bool.or_true]
    · rename_i c
      rw [if_neg c] at h
      exact ackV_of ha hn hs r hm.2 h
theorem rdM_eq (l : List S39) (j : Nat) (hj : j < l.length) : rd_T39 l (j : Int) = l[j]! := by
  simp [rd_T39, List.getD_eq_getElem?_getD, List.getElem?_eq_getElem hj, getElem!_pos l j hj]
def cntA (now span : Int) (m : List S39) (v : List Int) : Nat := (v.filter (fun x => ackV x now span m)).length
theorem Most_l1 (now span : Int) (m : List S39) (v l : List Int) (hm : m.length ≤ 4611686018427387904) (i : Nat) (hi : i < v.length) (hv : v.length ≤ 4611686018427387904) (n : Nat) (hn : n ≤ i) (r : Bool)
    (hy : Ev (fun k => ferrulelaw10_LeaseMost.l0 k now m span (((n + (if ackV (v[i]!) now span m then 1 else 0) : Nat) : Int)) ((i + 1 : Nat) : Int) v l) r) :
    ∀ (d j : Nat), d = m.length - j → j ≤ m.length → ackV (v[i]!) now span (m.drop j) = ackV (v[i]!) now span m → Ev (fun k => ferrulelaw10_LeaseMost.l1 k now m span (n : Int) (i : Int) (j : Int) v l) r := by
  intro d
  have hwi : wrap64 ((i : Int) + 1) = ((i + 1 : Nat) : Int) := wrapUp i (by omega)
  have hwn : wrap64 ((n : Int) + 1) = ((n + 1 : Nat) : Int) := wrapUp n (by omega)
  induction d with
  | zero =>
    intro j hd hj hk
    obtain rfl : j = m.length := by omega
    rw [List.drop_length] at hk
    rw [← hk] at hy
    refine Ev.step (fun q => by simp only [ferrulelaw10_LeaseMost.l1]; rw [if_neg (by omega), hwi]) ?_
    exact hy
  | succ d ih =>
    intro j hd hj hk
    have hlt : j < m.length := by omega
    rw [dropGet m j hlt] at hk
    have hwj : wrap64 ((j : Int) + 1) = ((j + 1 : Nat) : Int) := wrapUp j (by omega)
    rw [ackV_cons] at hk
    refine Ev.step (fun q => by simp only [ferrulelaw10_LeaseMost.l1]; rw [if_pos (by omega), if_pos (by omega), if_pos (by omega), if_pos (by omega), rdM_eq m j hlt, rd_int v i hi, hwi, hwj, hwn]) ?_
    by_cases c : (m[j]!).f0 = v[i]!
    · rw [if_pos c] at hk
      refine Ev.congr (fun q => if_pos c) ?_
      rw [← hk] at hy
      by_cases c1 : (m[j]!).f1 > now
      · refine Ev.congr (fun q => if_pos c1) ?_
        rw [decide_eq_true c1, Bool.true_or, if_pos rfl] at hy
        exact hy
      · refine Ev.congr (fun q => if_neg c1) ?_
        rw [decide_eq_false c1, Bool.false_or] at hy
        by_cases c2 : IntKind.u64.wrap (now - (m[j]!).f1) < span
        · refine Ev.congr (fun q => if_pos c2) ?_
          rw [decide_eq_true c2, if_pos rfl] at hy
          exact hy
        · refine Ev.congr (fun q => if_neg c2) ?_
          rw [decide_eq_false c2, if_neg (by decide), Nat.add_zero] at hy
          exact hy
    · rw [if_neg c] at hk
      refine Ev.congr (fun q => if_neg c) ?_
      exact ih (j + 1) (by omega) (by omega) hk
theorem Most_l0 (now span : Int) (m : List S39) (v l : List Int) (hm : m.length ≤ 4611686018427387904) (hv : v.length ≤ 4611686018427387904) : ∀ (d i n : Nat), d = v.length - i → i ≤ v.length → n ≤ i → v.length / 2 + 1 ≤ n + cntA now span m (v.drop i) → Ev (fun k => ferrulelaw10_LeaseMost.l0 k now m span (n : Int) (i : Int) v l) true := by
  intro d
  induction d with
  | zero =>
    intro i n hd hi hn hc
    obtain rfl : i = v.length := by omega
    rw [List.drop_length] at hc
    have e0 : cntA now span m [] = 0 := rfl
    rw [e0] at hc
    refine Ev.step (fun q => by simp only [ferrulelaw10_LeaseMost.l0]; rw [if_neg (by omega), show wrap64 (wrap64 ((v.length : Int) / 2) + 1) = ((v.length / 2 + 1 : Nat) : Int) by unfold wrap64; omega, decide_eq_true (by omega)]) (Ev.now true)
  | succ d ih =>
    intro i n hd hi hn hc
    have hlt : i < v.length := by omega
    refine Ev.step (fun q => by simp only [ferrulelaw10_LeaseMost.l0]; rw [if_pos (by omega)]) ?_
    refine Most_l1 now span m v l hm i hlt hv n hn true ?_ m.length 0 rfl (Nat.zero_le _) (by rw [List.drop_zero])
    rw [dropGet v i hlt] at hc
    refine ih (i + 1) _ (by omega) (by omega) (by split <;> omega) ?_
    unfold cntA at hc ⊢
    rw [List.filter_cons] at hc
    split at hc
    · rename_i c
      rw [List.length_cons] at hc
      rw [if_pos c]; omega
    · rename_i c
      rw [if_neg c]; omega
theorem filter_le {α : Type} (p q : α → Bool) : ∀ (v : List α), (∀ x ∈ v, p x = true → q x = true) → (v.filter p).length ≤ (v.filter q).length
  | [], _ => Nat.le_refl _
  | x :: r, h => by
    have := filter_le p q r (fun y hy => h y (List.mem_cons_of_mem _ hy))
    rw [List.filter_cons, List.filter_cons]
    split
    · rename_i c
      rw [if_pos (h x List.mem_cons_self c), List.length_cons, List.length_cons]; omega
    · split
      · rw [List.length_cons]; omega
      · exact this
theorem most_cntA {v0 : Int} {t l : List Int} {m : List S39} {now span d : Int} (hok : untOk (v0 :: t) m v0 now span d) (hn : natM m = true) (hnow : 0 ≤ now ∧ now < 18446744073709551616) (h : holdsV (v0 :: t) l m v0 now span.toNat d.toNat = true) : (v0 :: t).length / 2 + 1 ≤ 1 + cntA now span m t := by
  unfold holdsV at h
  rw [Bool.and_eq_true, Bool.and_eq_true, decide_eq_true_eq] at h
  obtain ⟨⟨hmay, _⟩, hu⟩ := h
  obtain ⟨_, _, hnat, hs, hd, ha0⟩ := hok
  have hrise := (mayV_ok hmay).2.2.2.1
  have hmost := hav_most hmay hnat
  rw [most_cnt hrise, decide_eq_true_eq] at hmost
  have e1 : cntH (v0 :: t) (havV (v0 :: t) (setV m v0 now)) = ((v0 :: t).filter (fun x => decide (agrV (v0 :: t) (setV m v0 now) ≤ markV (setV m v0 now) x))).length := by
    unfold cntH
    congr 1
    apply List.filter_congr
    intro x hx
    rw [Bool.eq_iff_iff, hasI_iff]
    unfold havV
    rw [List.mem_filter]
    exact ⟨fun h => h.2, fun h => ⟨hx, h⟩⟩
  rw [e1] at hmost
  unfold untV at hu
  have hb := bnd_le span.toNat d.toNat
  have hb2 : bndN span.toNat d.toNat ≤ span.toNat := by unfold bndN; split <;> omega
  generalize bndN span.toNat d.toNat = b at *
  generalize hag : agrV (v0 :: t) (setV m v0 now) = a at *
  by_cases c : b = 0 ∨ a = 0
  · rw [if_pos c] at hu; omega
  rw [if_neg c] at hu
  have hlt : now < a + (b : Int) := by split at hu <;> omega
  have hpw := rises_pw hrise
  have hle : (t.filter (fun x => decide (a ≤ markV (setV m v0 now) x))).length ≤ cntA now span m t := by
    refine filter_le _ _ t (fun x hx hp => ?_)
    have hne : x ≠ v0 := by have := (List.pairwise_cons.1 hpw).1 x hx; omega
    have hp := of_decide_eq_true hp
    rw [markV_set, if_neg hne] at hp
    exact ackV_of (a := a) (by omega) hnow.2 (fun N h1 h2 => by omega) m hn hp
  rw [List.filter_cons] at hmost
  split at hmost
  · simp only [List.length_cons] at hmost ⊢
    omega
  · simp only [List.length_cons] at hmost ⊢
    omega
theorem LeaseMost_pure (v l : List Int) (now : Int) (m : List S39) (span d : Int) (hok : ∀ id, untOk v m id now span d) (hn : natM m = true) (hnow : 0 ≤ now ∧ now < 18446744073709551616) (hl : l.length ≤ 9223372036854775806) : Ev (fun k => ferrulelaw10_LeaseMost.f k v l now m span d) true := by
  have hv := (hok 0).1
  have hm := (hok 0).2.1
  refine Ev.bind (show Ev (fun _ => ferrulelaw10_shown.f) true from Ev.now true) ?_
  refine Ev.congr (fun _ => if_pos rfl) ?_
  cases v with
  | nil =>
    refine Ev.congr (fun _ => if_pos rfl) ?_
    exact Ev.step (fun q => by simp only [ferrulelaw10_LeaseMost.j0]; exact if_pos trivial) (Ev.now true)
  | cons v0 t =>
    refine Ev.congr (fun _ => (if_neg (by rw [List.length_cons]; omega)).trans (if_pos (by rw [List.length_cons]; omega))) ?_
    have e0 : rd (v0 :: t) 0 = v0 := rfl
    rw [e0]
    refine Ev.bind (show Ev (fun _ => lease_Holds.f (v0 :: t) l v0 now m span d) _ from ⟨0, fun _ _ => gH_eq (hok v0) hl⟩) ?_
    by_cases c : holdsV (v0 :: t) l m v0 now span.toNat d.toNat = true
    · rw [c]
      have hc := most_cntA (hok v0) hn hnow c
      refine Ev.step (fun q => by simp only [ferrulelaw10_LeaseMost.j0]; exact if_neg (by decide)) ?_
      exact Most_l0 now span m (v0 :: t) l (by omega) (by omega) t.length 1 1 (by rw [List.length_cons]; omega) (by rw [List.length_cons]; omega) (Nat.le_refl _) hc
    · rw [Bool.eq_false_iff.2 c]
      exact Ev.step (fun q => by simp only [ferrulelaw10_LeaseMost.j0]; exact if_pos (by decide)) (Ev.now true)
theorem LeaseMost_walk {w : World} (cs : Array Value) (x : S37) (hx : k37.K w x cs.toList) (hsx : ok37 x) :
    Calls Try.prog 6 #[.agg cs] w fun e w' => e = .returned (.bool true) ∧ Below w.heap.size w w' := by
  obtain ⟨⟨⟨h1, _⟩, ⟨h2, _⟩⟩, u3, ⟨h4, u4⟩, u5, u6⟩ := hsx
  rw [lbytesU64] at h1 h2
  rw [lbytesMark] at h4
  obtain ⟨_, _, hcs, ⟨_, _, rfl, ⟨A0, c0, rfl, l0, g0⟩, ⟨A1, c1, rfl, l1, g1⟩⟩, ⟨_, _, rfl, rfl, ⟨_, _, rfl, ⟨A4, c4, rfl, l4, g4⟩, ⟨_, _, rfl, rfl, rfl⟩⟩⟩⟩ := hx
  obtain rfl : cs = #[.slice A0 x.f0.f0.length c0, .slice A1 x.f0.f1.length c1, .int .u64 x.f1, .slice A4 x.f2.length c4, .int .u64 x.f3, .int .u64 x.f4] := Array.toList_inj.1 hcs
  obtain ⟨k, hk⟩ := (LeaseMost_pure x.f0.f0 x.f0.f1 x.f1 x.f2 x.f3 x.f4 (fun id => untOk_of (by omega) (by omega) (natM_ok u4) (wf_u64 u3).1 (wf_u64 u5) (wf_u64 u6)) (natM_ok u4) (wf_u64 u3) (by omega)).rounds
  exact ferrulelaw10_LeaseMost.calls k A0 c0 x.f0.f0 A1 c1 x.f0.f1 x.f1 A4 c4 x.f2 x.f3 x.f4 true w g0 l0 g1 l1 g4 l4 hk
end Go.Proofs.Ytlmefnifhbcbcaa.PAll
end
