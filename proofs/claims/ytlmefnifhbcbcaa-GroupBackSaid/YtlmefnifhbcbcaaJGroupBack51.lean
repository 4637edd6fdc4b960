/- Joined texts of the claim GroupBack (part 51): contracts of functions and plain laws. -/
import Derived.Outline
import Derived.Test.YtlmefnifhbcbcaaJGroupBack14
import Derived.Test.YtlmefnifhbcbcaaJGroupBack17
import Derived.Test.YtlmefnifhbcbcaaJGroupBack23
import Derived.Test.YtlmefnifhbcbcaaJGroupBack38
import Derived.Test.YtlmefnifhbcbcaaJGroupBack48
import Derived.Test.YtlmefnifhbcbcaaJGroupBack49
import Derived.Test.YtlmefnifhbcbcaaJGroupBack50
section
/- Plain laws of groups: a configuration's bytes, and the configuration of bytes. -/
namespace Go.Proofs.Ytlmefnifhbcbcaa.PAll
open Go.RowKit Go.Proofs.YtlmefnifhbcbcaaW.PrintWords Go.Proofs.YtlmefnifhbcbcaaW.PrintMore Go.Proofs.Ytlmefnifhbcbcaa
set_option linter.unusedVariables false
theorem goodN_of {l : List Int} (h : risesB l = true) : goodN l = true := List.all_eq_true.2 (fun x hx => by
  have := rises_val h x hx
  rw [Bool.and_eq_true, decide_eq_true_eq, decide_eq_true_eq]
  omega)
theorem goodN_mem {l : List Int} (h : goodN l = true) : ∀ x ∈ l, 0 ≤ x ∧ x < 4611686018427387904 := fun x hx => by
  have := List.all_eq_true.1 h x hx
  rw [Bool.and_eq_true, decide_eq_true_eq, decide_eq_true_eq] at this
  exact this
/-! bytes -/
def catN : List Int → ByteArray
  | [] => ⟨#[]⟩
  | x :: r => (numV x).1 ++ catN r
theorem catN_data : ∀ l : List Int, (catN l).data.toList = (l.map (fun x => (numV x).1.data.toList)).flatten
  | [] => rfl
  | x :: r => by rw [catN, ByteArray.data_append, Array.toList_append, catN_data r, List.map_cons, List.flatten_cons]
theorem numsV_cat (l : List Int) : numsV l = (numV l.length).1 ++ catN l := by
  apply ByteArray.ext
  rw [ByteArray.data_append]
  apply Array.toList_inj.1
  rw [Array.toList_append, catN_data]
  unfold numsV numsD lenL
  rw [List.take_length, List.map_cons, List.flatten_cons]
theorem catN_size : ∀ l : List Int, (catN l).size ≤ 8 * l.length
  | [] => Nat.zero_le _
  | x :: r => by
    have := numV_size x
    have := catN_size r
    rw [catN, ByteArray.size_append, List.length_cons]
    omega
theorem numsV_size (l : List Int) : (numsV l).size ≤ 8 + 8 * l.length := by
  rw [numsV_cat, ByteArray.size_append]
  have := numV_size (l.length : Int)
  have := catN_size l
  omega
def confB (v l : List Int) : ByteArray × Int := if mayV v l = true then (numsV v ++ numsV l, 0) else (⟨#[]⟩, 1)
theorem gBytes_ev (v l : List Int) (hv : v.length ≤ 4611686018427387904) (hl : l.length ≤ 4611686018427387904) : Ev (fun _ => group_Bytes.f v l) (confB v l) := by
  unfold group_Bytes.f confB
  refine Ev.bind (show Ev (fun _ => group_May.f v l) _ from ⟨0, fun _ _ => gMay_eq v l (by omega) (by omega)⟩) ?_
  by_cases hm : mayV v l = true
  · obtain ⟨m1, m2, m3, m4, m5, m6⟩ := mayV_ok hm
    refine Ev.congr (fun _ => if_pos hm) ?_
    rw [if_pos hm]
    refine Ev.bind (show Ev (fun _ => pack_Nums.f v) (numsV v, 0) from ⟨0, fun _ _ => by unfold pack_Nums.f; rw [if_pos ⟨goodN_of m4, by omega⟩]⟩) ?_
    refine Ev.bind (show Ev (fun _ => pack_Nums.f l) (numsV l, 0) from ⟨0, fun _ _ => by unfold pack_Nums.f; rw [if_pos ⟨goodN_of m5, by omega⟩]⟩) ?_
    have := numsV_size v
    have := numsV_size l
    exact Ev.congr (fun _ => if_pos (by simp only []; omega)) (Ev.now _)
  · refine Ev.congr (fun _ => if_neg hm) ?_
    rw [if_neg hm]
    exact Ev.now _
/-! back -/
theorem takeN_len : ∀ (d : Nat) (s : ByteArray) (out : List Int), (takeN d s out).1.length ≤ out.length + d ∧ (takeN d s out).2.1.size ≤ s.size
  | 0, s, out => ⟨Nat.le_refl _, Nat.le_refl _⟩
  | d + 1, s, out => by
    unfold takeN
    split
    · have h := takeN_len d (takeV s).2.1 (out ++ [(takeV s).1])
      have h2 := (takeV_range s).2.2
      rw [List.length_append, List.length_singleton] at h
      omega
    · exact ⟨Nat.zero_le _, Nat.zero_le _⟩
theorem takeNV_len (s : ByteArray) (most : Int) (h0 : 0 ≤ most) : ((takeNV s most).1.length : Int) ≤ most := by
  unfold takeNV
  have h1 := (takeV_range s).1
  split
  · split
    · simpa using h0
    · have := (takeN_len (takeV s).1.toNat (takeV s).2.1 []).1
      rw [List.length_nil] at this
      omega
  · simpa using h0
def noConf : List Int × List Int × Int := ([], [], 3)
def confT (s : ByteArray) : List Int × List Int × Int :=
  if (takeNV s 7).2.2 = 0 then
    (if (takeNV (takeNV s 7).2.1 3).2.2 = 0 then (if (takeNV (takeNV s 7).2.1 3).2.1.size = 0 then (if mayV (takeNV s 7).1 (takeNV (takeNV s 7).2.1 3).1 = true then ((takeNV s 7).1, (takeNV (takeNV s 7).2.1 3).1, 0) else noConf) else noConf) else noConf)
  else noConf
theorem toList_nil (s : ByteArray) : s.toList = ([] : List UInt8) ↔ s.size = 0 := by
  have := toList_len s
  constructor
  · intro h; rw [h] at this; simpa using this.symm
  · intro h; exact List.eq_nil_of_length_eq_zero (by omega)
theorem gTake_ev (s : ByteArray) : Ev (fun _ => group_Take.f s) (confT s) := by
  unfold group_Take.f confT
  have l1 := takeNV_len s 7 (by decide)
  have l2 := takeNV_len (takeNV s 7).2.1 3 (by decide)
  refine Ev.bind (show Ev (fun _ => pack_TakeNums.f s 7) (takeNV s 7) from ⟨0, fun _ _ => by unfold pack_TakeNums.f; rw [if_pos ⟨by decide, by decide⟩]⟩) ?_
  by_cases c1 : (takeNV s 7).2.2 = 0
  case neg => refine Ev.congr (fun _ => if_neg c1) ?_; rw [if_neg c1]; exact Ev.now _
  refine Ev.congr (fun _ => if_pos c1) ?_
  rw [if_pos c1]
  refine Ev.bind (show Ev (fun _ => pack_TakeNums.f (takeNV s 7).2.1 3) (takeNV (takeNV s 7).2.1 3) from ⟨0, fun _ _ => by unfold pack_TakeNums.f; rw [if_pos ⟨by decide, by decide⟩]⟩) ?_
  by_cases c2 : (takeNV (takeNV s 7).2.1 3).2.2 = 0
  case neg => refine Ev.congr (fun _ => if_neg c2) ?_; rw [if_neg c2]; exact Ev.now _
  refine Ev.congr (fun _ => if_pos c2) ?_
  rw [if_pos c2]
  by_cases c3 : (takeNV (takeNV s 7).2.1 3).2.1.size = 0
  case neg => rw [if_neg c3]; exact Ev.congr (fun _ => if_neg (fun h => c3 ((toList_nil _).1 h))) (Ev.now _)
  rw [if_pos c3]
  refine Ev.congr (fun _ => if_pos ((toList_nil _).2 c3)) ?_
  refine Ev.bind (show Ev (fun _ => group_May.f _ _) _ from ⟨0, fun _ _ => gMay_eq _ _ (by omega) (by omega)⟩) ?_
  by_cases c4 : mayV (takeNV s 7).1 (takeNV (takeNV s 7).2.1 3).1 = true
  · refine Ev.congr (fun _ => if_pos c4) ?_; rw [if_pos c4]; exact Ev.now _
  · refine Ev.congr (fun _ => if_neg c4) ?_; rw [if_neg c4]; exact Ev.now _
theorem nil_append_B (s : ByteArray) : (⟨#[]⟩ : ByteArray) ++ s = s := by
  apply ByteArray.ext
  rw [ByteArray.data_append]
  show #[] ++ s.data = s.data
  simp
theorem takeN_back : ∀ (l : List Int) (more : ByteArray) (out : List Int), (∀ x ∈ l, 0 ≤ x ∧ x < 4611686018427387904) → takeN l.length (catN l ++ more) out = (out ++ l, more, 0)
  | [], more, out, _ => by
    rw [List.append_nil, catN, nil_append_B]
    rfl
  | x :: r, more, out, h => by
    obtain ⟨h0, h1⟩ := h x List.mem_cons_self
    rw [List.length_cons, takeN, catN, ByteArray.append_assoc, takeV_num x h0 h1]
    simp only []
    rw [if_pos trivial, takeN_back r more (out ++ [x]) (fun y hy => h y (List.mem_cons_of_mem _ hy)), List.append_assoc]
    rfl
theorem takeNV_back (l : List Int) (more : ByteArray) (most : Int) (hg : goodN l = true) (hl : (l.length : Int) ≤ most) (hm : most ≤ 1000) : takeNV (numsV l ++ more) most = (l, more, 0) := by
  unfold takeNV
  rw [numsV_cat, ByteArray.append_assoc, takeV_num _ (by omega) (by omega)]
  simp only []
  rw [if_pos trivial, if_neg (by omega), Int.toNat_natCast]
  exact takeN_back l more [] (goodN_mem hg)
theorem conf_back {v l : List Int} (more : ByteArray) (hm : mayV v l = true) : confT (numsV v ++ numsV l ++ more) = if more.size = 0 then (v, l, 0) else noConf := by
  obtain ⟨m1, m2, m3, m4, m5, m6⟩ := mayV_ok hm
  unfold confT
  rw [ByteArray.append_assoc, takeNV_back v _ 7 (goodN_of m4) (by omega) (by omega)]
  simp only []
  rw [takeNV_back l more 3 (goodN_of m5) (by omega) (by omega)]
  simp only []
  rw [if_pos trivial, if_pos trivial, if_pos hm]
end Go.Proofs.Ytlmefnifhbcbcaa.PAll
end
