/- Joined texts of the claim GroupBytes (part 51): contracts of functions and plain laws. -/
import Derived.Test.YtlmefnifhbcbcaaJGroupBytes32
import Derived.Test.YtlmefnifhbcbcaaJGroupBytes34
import Derived.Test.YtlmefnifhbcbcaaJGroupBytes37
import Derived.Test.YtlmefnifhbcbcaaJGroupBytes45
import Derived.Test.YtlmefnifhbcbcaaJGroupBytes46
import Derived.Test.YtlmefnifhbcbcaaJGroupBytes47
import Derived.Test.YtlmefnifhbcbcaaJGroupBytes48
import Derived.Test.YtlmefnifhbcbcaaJGroupBytes49
import Derived.Test.YtlmefnifhbcbcaaJGroupBytes50
section
/- Plain laws of groups: a configuration's bytes, and the configuration of bytes. -/
namespace Go.Proofs.Ytlmefnifhbcbcaa.PAll
open Go.RowKit Go.Proofs.YtlmefnifhbcbcaaW.PrintWords Go.Proofs.YtlmefnifhbcbcaaW.PrintMore Go.Proofs.Ytlmefnifhbcbcaa
set_option linter.unusedVariables false
theorem goodN_of {l : List Int} (h : risesB l = true) : goodN l = true := List.all_eq_true.2 (fun x hx => by
  have := rises_val h x hx
  rw [Bool.and_eq_true, decide_eq_true_eq, decide_eq_true_eq]
  omega)
theorem goodN_mem {l : List Int} (h : goodN l = true) : ∀ x ∈ l, 0 ≤ x ∧ x < 4611686018427387904 := fun x hx => by
  have := List.all_eq_true.1 h x hx
  rw [Bool.and_eq_true, decide_eq_true_eq, decide_eq_true_eq] at this
  exact this
/-! bytes -/
def catN : List Int → ByteArray
  | [] => ⟨#[]⟩
  | x :: r => (numV x).1 ++ catN r
theorem catN_data : ∀ l : List Int, (catN l).data.toList = (l.map (fun x => (numV x).1.data.toList)).flatten
  | [] => rfl
  | x :: r => by rw [catN, ByteArray.data_append, Array.toList_append, catN_data r, List.map_cons, List.flatten_cons]
theorem numsV_cat (l : List Int) : numsV l = (numV l.length).1 ++ catN l := by
  apply ByteArray.ext
  rw [ByteArray.data_append]
  apply Array.toList_inj.1
  rw [Array.toList_append, catN_data]
  unfold numsV numsD lenL
  rw [List.take_length, List.map_cons, List.flatten_cons]
theorem catN_size : ∀ l : List Int, (catN l).size ≤ 8 * l.length
  | [] => Nat.zero_le _
  | x :: r => by
    have := numV_size x
    have := catN_size r
    rw [catN, ByteArray.size_append, List.length_cons]
    omega
theorem numsV_size (l : List Int) : (numsV l).size ≤ 8 + 8 * l.length := by
  rw [numsV_cat, ByteArray.size_append]
  have := numV_size (l.length : Int)
  have := catN_size l
  omega
theorem rNum1_ev (x : Int) (h0 : 0 ≤ x) (h1 : x < 4611686018427387904) : Ev (fun q => refNum q x) (numV x).1 := by
  unfold refNum
  refine Ev.bind (rNum_ev x h0 (by omega)) ?_
  have := numV_size x
  exact Ev.congr (fun q => if_pos ⟨numV_ok x h1, by omega⟩) (Ev.now _)
theorem rNums1_ev : ∀ l : List Int, (∀ x ∈ l, 0 ≤ x ∧ x < 4611686018427387904) → Ev (fun q => refNums q l) ((l.map (fun x => (numV x).1.data.toList)).flatten)
  | [], _ => Ev.now _
  | x :: r, h => by
    obtain ⟨h0, h1⟩ := h x List.mem_cons_self
    unfold refNums
    exact Ev.bind (rNum1_ev x h0 h1) (Ev.bind (rNums1_ev r (fun y hy => h y (List.mem_cons_of_mem _ hy))) (Ev.now _))
theorem rNums_ev (l : List Int) (hg : goodN l = true) (hl : l.length ≤ 1000) : Ev (fun q => ferruleref01_Nums.f q l) (numsV l, 0) := by
  unfold ferruleref01_Nums.f
  refine Ev.bind (rNum_ev (l.length : Int) (by omega) (by omega)) ?_
  have := numV_size (l.length : Int)
  refine Ev.congr (fun q => if_pos ⟨by omega, hl⟩) ?_
  refine Ev.bind (rNums1_ev l (goodN_mem hg)) ?_
  have e : numsV l = ⟨((numV l.length).1.data.toList ++ (l.map (fun x => (numV x).1.data.toList)).flatten).toArray⟩ := by
    unfold numsV numsD lenL
    rw [List.take_length, List.map_cons, List.flatten_cons]
  rw [e]
  exact Ev.now _
def confB (v l : List Int) : ByteArray × Int := if mayV v l = true then (numsV v ++ numsV l, 0) else (⟨#[]⟩, 1)
theorem gBytes_ev (v l : List Int) (hv : v.length ≤ 4611686018427387904) (hl : l.length ≤ 4611686018427387904) : Ev (fun _ => group_Bytes.f v l) (confB v l) := by
  unfold group_Bytes.f confB
  refine Ev.bind (show Ev (fun _ => group_May.f v l) _ from ⟨0, fun _ _ => gMay_eq v l (by omega) (by omega)⟩) ?_
  by_cases hm : mayV v l = true
  · obtain ⟨m1, m2, m3, m4, m5, m6⟩ := mayV_ok hm
    refine Ev.congr (fun _ => if_pos hm) ?_
    rw [if_pos hm]
    refine Ev.bind (show Ev (fun _ => pack_Nums.f v) (numsV v, 0) from ⟨0, fun _ _ => by unfold pack_Nums.f; rw [if_pos ⟨goodN_of m4, by omega⟩]⟩) ?_
    refine Ev.bind (show Ev (fun _ => pack_Nums.f l) (numsV l, 0) from ⟨0, fun _ _ => by unfold pack_Nums.f; rw [if_pos ⟨goodN_of m5, by omega⟩]⟩) ?_
    have := numsV_size v
    have := numsV_size l
    exact Ev.congr (fun _ => if_pos (by simp only []; omega)) (Ev.now _)
  · refine Ev.congr (fun _ => if_neg hm) ?_
    rw [if_neg hm]
    exact Ev.now _
theorem rBytes_ev (v l : List Int) (hv : v.length ≤ 4611686018427387904) (hl : l.length ≤ 4611686018427387904) : Ev (fun q => ferruleref06_Bytes.f q v l) (confB v l) := by
  unfold ferruleref06_Bytes.f confB
  refine Ev.bind (rMay_ev v l (by omega) (by omega)) ?_
  by_cases hm : mayV v l = true
  · obtain ⟨m1, m2, m3, m4, m5, m6⟩ := mayV_ok hm
    refine Ev.congr (fun _ => if_pos hm) ?_
    rw [if_pos hm]
    refine Ev.bind (rNums_ev v (goodN_of m4) (by omega)) ?_
    refine Ev.bind (rNums_ev l (goodN_of m5) (by omega)) ?_
    have := numsV_size v
    have := numsV_size l
    exact Ev.congr (fun _ => if_pos (by simp only []; omega)) (Ev.now _)
  · refine Ev.congr (fun _ => if_neg hm) ?_
    rw [if_neg hm]
    exact Ev.now _
/-! back -/
theorem takeN_len : ∀ (d : Nat) (s : ByteArray) (out : List Int), (takeN d s out).1.length ≤ out.length + d ∧ (takeN d s out).2.1.size ≤ s.size
  | 0, s, out => ⟨Nat.le_refl _, Nat.le_refl _⟩
  | d + 1, s, out => by
    unfold takeN
    split
    · have h := takeN_len d (takeV s).2.1 (out ++ [(takeV s).1])
      have h2 := (takeV_range s).2.2
      rw [List.length_append, List.length_singleton] at h
      omega
    · exact ⟨Nat.zero_le _, Nat.zero_le _⟩
theorem takeNV_len (s : ByteArray) (most : Int) (h0 : 0 ≤ most) : ((takeNV s most).1.length : Int) ≤ most := by
  unfold takeNV
  have h1 := (takeV_range s).1
  split
  · split
    · simpa using h0
    · have := (takeN_len (takeV s).1.toNat (takeV s).2.1 []).1
      rw [List.length_nil] at this
      omega
  · simpa using h0
theorem rTakeN_l0 (n : Nat) (hn : n ≤ 1000) : ∀ (d i : Nat) (s : ByteArray) (out : List Int), d = n - i → i ≤ n → out.length ≤ i → Ev (fun q => ferruleref01_TakeNums.l0 q (n : Int) s out (i : Int)) (takeN d s out) := by
  intro d
  induction d with
  | zero =>
    intro i s out hd hi ho
    exact Ev.step (f := fun _ => some (out, s, 0)) (fun q => by simp only [ferruleref01_TakeNums.l0]; rw [if_neg (show ¬ (i : Int) < n by omega)]) (Ev.now _)
  | succ d ih =>
    intro i s out hd hi ho
    refine Ev.step (fun q => by simp only [ferruleref01_TakeNums.l0]; rw [if_pos (show (i : Int) < n by omega)]) ?_
    refine Ev.bind (rTakeNum_ev s) ?_
    unfold takeN
    by_cases c : (takeV s).2.2 = 0
    · rw [if_pos c]
      refine Ev.congr (fun q => (if_pos c).trans (if_pos (by omega))) ?_
      have hw : IntKind.u64.wrap ((i : Int) + 1) = ((i + 1 : Nat) : Int) := w64 _ (by omega) (by omega)
      rw [hw]
      exact ih (i + 1) _ _ (by omega) (by omega) (by simp; omega)
    · rw [if_neg c]
      exact Ev.congr (fun q => if_neg c) (Ev.now _)
theorem rTakeNums_ev (s : ByteArray) (most : Int) (h0 : 0 ≤ most) (h1 : most ≤ 1000) : Ev (fun q => ferruleref01_TakeNums.f q s most) (takeNV s most) := by
  unfold ferruleref01_TakeNums.f takeNV
  have hr := (takeV_range s).1
  refine Ev.bind (rTakeNum_ev s) ?_
  by_cases c : (takeV s).2.2 = 0
  · rw [if_pos c]
    refine Ev.congr (fun q => (if_pos c).trans (if_neg (by omega))) ?_
    rw [w64 most h0 (by omega)]
    by_cases c2 : (takeV s).1 > most
    · rw [if_pos c2, decide_eq_true c2]
      exact Ev.step (f := fun _ => some ([], ⟨#[]⟩, 4)) (fun q => by simp only [ferruleref01_TakeNums.j0]; exact if_pos trivial) (Ev.now _)
    · rw [if_neg c2, decide_eq_false c2]
      have e : (((takeV s).1.toNat : Nat) : Int) = (takeV s).1 := Int.toNat_of_nonneg hr
      have hl := rTakeN_l0 (takeV s).1.toNat (by omega) (takeV s).1.toNat 0 (takeV s).2.1 [] (by omega) (by omega) (by simp)
      rw [e] at hl
      exact Ev.step (fun q => by simp only [ferruleref01_TakeNums.j0]; exact if_neg (by decide)) hl
  · rw [if_neg c]
    exact Ev.congr (fun q => if_neg c) (Ev.now _)
def noConf : List Int × List Int × Int := ([], [], 3)
def confT (s : ByteArray) : List Int × List Int × Int :=
  if (takeNV s 7).2.2 = 0 then
    (if (takeNV (takeNV s 7).2.1 3).2.2 = 0 then (if (takeNV (takeNV s 7).2.1 3).2.1.size = 0 then (if mayV (takeNV s 7).1 (takeNV (takeNV s 7).2.1 3).1 = true then ((takeNV s 7).1, (takeNV (takeNV s 7).2.1 3).1, 0) else noConf) else noConf) else noConf)
  else noConf
theorem toList_nil (s : ByteArray) : s.toList = ([] : List UInt8) ↔ s.size = 0 := by
  have := toList_len s
  constructor
  · intro h; rw [h] at this; simpa using this.symm
  · intro h; exact List.eq_nil_of_length_eq_zero (by omega)
theorem gTake_ev (s : ByteArray) : Ev (fun _ => group_Take.f s) (confT s) := by
  unfold group_Take.f confT
  have l1 := takeNV_len s 7 (by decide)
  have l2 := takeNV_len (takeNV s 7).2.1 3 (by decide)
  refine Ev.bind (show Ev (fun _ => pack_TakeNums.f s 7) (takeNV s 7) from ⟨0, fun _ _ => by unfold pack_TakeNums.f; rw [if_pos ⟨by decide, by decide⟩]⟩) ?_
  by_cases c1 : (takeNV s 7).2.2 = 0
  case neg => refine Ev.congr (fun _ => if_neg c1) ?_; rw [if_neg c1]; exact Ev.now _
  refine Ev.congr (fun _ => if_pos c1) ?_
  rw [if_pos c1]
  refine Ev.bind (show Ev (fun _ => pack_TakeNums.f (takeNV s 7).2.1 3) (takeNV (takeNV s 7).2.1 3) from ⟨0, fun _ _ => by unfold pack_TakeNums.f; rw [if_pos ⟨by decide, by decide⟩]⟩) ?_
  by_cases c2 : (takeNV (takeNV s 7).2.1 3).2.2 = 0
  case neg => refine Ev.congr (fun _ => if_neg c2) ?_; rw [if_neg c2]; exact Ev.now _
  refine Ev.congr (fun _ => if_pos c2) ?_
  rw [if_pos c2]
  by_cases c3 : (takeNV (takeNV s 7).2.1 3).2.1.size = 0
  case neg => rw [if_neg c3]; exact Ev.congr (fun _ => if_neg (fun h => c3 ((toList_nil _).1 h))) (Ev.now _)
  rw [if_pos c3]
  refine Ev.congr (fun _ => if_pos ((toList_nil _).2 c3)) ?_
  refine Ev.bind (show Ev (fun _ => group_May.f _ _) _ from ⟨0, fun _ _ => gMay_eq _ _ (by omega) (by omega)⟩) ?_
  by_cases c4 : mayV (takeNV s 7).1 (takeNV (takeNV s 7).2.1 3).1 = true
  · refine Ev.congr (fun _ => if_pos c4) ?_; rw [if_pos c4]; exact Ev.now _
  · refine Ev.congr (fun _ => if_neg c4) ?_; rw [if_neg c4]; exact Ev.now _
theorem rTake_ev (s : ByteArray) : Ev (fun q => ferruleref06_Take.f q s) (confT s) := by
  unfold ferruleref06_Take.f confT
  have l1 := takeNV_len s 7 (by decide)
  have l2 := takeNV_len (takeNV s 7).2.1 3 (by decide)
  refine Ev.bind (rTakeNums_ev s 7 (by decide) (by decide)) ?_
  by_cases c1 : (takeNV s 7).2.2 = 0
  case neg => refine Ev.congr (fun _ => if_neg c1) ?_; rw [if_neg c1]; exact Ev.now _
  refine Ev.congr (fun _ => if_pos c1) ?_
  rw [if_pos c1]
  refine Ev.bind (rTakeNums_ev (takeNV s 7).2.1 3 (by decide) (by decide)) ?_
  refine Ev.bind (rMay_ev _ _ (by omega) (by omega)) ?_
  by_cases c2 : (takeNV (takeNV s 7).2.1 3).2.2 = 0
  case neg => refine Ev.congr (fun _ => if_neg c2) ?_; rw [if_neg c2]; exact Ev.now _
  refine Ev.congr (fun _ => if_pos c2) ?_
  rw [if_pos c2]
  by_cases c3 : (takeNV (takeNV s 7).2.1 3).2.1.size = 0
  case neg => rw [if_neg c3]; exact Ev.congr (fun _ => if_pos (by omega)) (Ev.now _)
  rw [if_pos c3]
  refine Ev.congr (fun _ => if_neg (by omega)) ?_
  by_cases c4 : mayV (takeNV s 7).1 (takeNV (takeNV s 7).2.1 3).1 = true
  · refine Ev.congr (fun _ => if_pos c4) ?_; rw [if_pos c4]; exact Ev.now _
  · refine Ev.congr (fun _ => if_neg c4) ?_; rw [if_neg c4]; exact Ev.now _
theorem confT_len (s : ByteArray) : (confT s).1.length ≤ 7 ∧ (confT s).2.1.length ≤ 3 := by
  have l1 := takeNV_len s 7 (by decide)
  have l2 := takeNV_len (takeNV s 7).2.1 3 (by decide)
  unfold confT noConf
  repeat' split
  all_goals simp
  all_goals omega
end Go.Proofs.Ytlmefnifhbcbcaa.PAll
end
