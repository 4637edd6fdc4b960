/- Joined texts of the claim RowsBytes (part 28): contracts of functions and plain laws. -/
import Derived.Test.YthfkbfahpgdnfaaJRowsBytes20
import Derived.Test.YthfkbfahpgdnfaaJRowsBytes24
import Derived.Test.YthfkbfahpgdnfaaJRowsBytes11
import Derived.Test.YthfkbfahpgdnfaaJRowsBytes25
import Derived.Test.YthfkbfahpgdnfaaJRowsBytes26
import Derived.Test.YthfkbfahpgdnfaaJRowsBytes27
section
/- A list of rows and its bytes: the code and the document agree; a right list is taken back. -/
namespace Go.Proofs.Ythfkbfahpgdnfaa.PAll
open Go.RowKit Go.Proofs.YthfkbfahpgdnfaaW.PrintWords Go.Proofs.YthfkbfahpgdnfaaW.PrintMore Go.Proofs.Ythfkbfahpgdnfaa
set_option linter.unusedVariables false
def noRows : List S64 × ByteArray × Int := ([], ⟨#[]⟩, 3)
def takeRows : Nat → ByteArray → List S64 → List S64 × ByteArray × Int
  | 0, s, out => if rightR out = true then (out, s, 0) else noRows
  | d + 1, s, out =>
    if (takeT s).2.2 = 0 then
      if (takeT (takeT s).2.1).2.2 = 0 then
        if (takeV (takeT (takeT s).2.1).2.1).2.2 = 0 then takeRows d (takeV (takeT (takeT s).2.1).2.1).2.1 (out ++ [⟨(takeT s).1, (takeT (takeT s).2.1).1, (takeV (takeT (takeT s).2.1).2.1).1⟩])
        else noRows
      else noRows
    else noRows
def takeL (s : ByteArray) : List S64 × ByteArray × Int := if (takeV s).2.2 = 0 then (if (takeV s).1 > 32 then noRows else takeRows (takeV s).1.toNat (takeV s).2.1 []) else noRows
theorem Take_l0 (n : Nat) (hn : n ≤ 32) : ∀ (d i : Nat) (s : ByteArray) (out : List S64), d = n - i → i ≤ n → s.size ≤ 9223372036854775806 → out.length ≤ i → Ev (fun q => rows_Take.l0 q s out (n : Int) (i : Int)) (takeRows d s out) := by
  intro d
  induction d with
  | zero =>
    intro i s out hd hi hs ho
    refine Ev.step (f := fun _ => some _) (fun q => ?_) (Ev.now _)
    simp only [rows_Take.l0]
    rw [if_neg (show ¬ (i : Int) < n by omega)]
    show (if rightR out = true then _ else _) = some (takeRows 0 s out)
    unfold takeRows
    split <;> rfl
  | succ d ih =>
    intro i s out hd hi hs ho
    have hz1 := takeT_size s
    have hz2 := takeT_size (takeT s).2.1
    have hz3 := takeV_range (takeT (takeT s).2.1).2.1
    refine Ev.step (fun q => by simp only [rows_Take.l0]; rw [if_pos (show (i : Int) < n by omega)]) ?_
    refine Ev.bind (TakeText_ev s hs) (Ev.bind (TakeText_ev _ (by omega)) (Ev.bind (TakeNum_ev _) ?_))
    unfold takeRows
    by_cases c1 : (takeT s).2.2 = 0
    · rw [if_pos c1]
      refine Ev.congr (fun q => if_pos c1) ?_
      by_cases c2 : (takeT (takeT s).2.1).2.2 = 0
      · rw [if_pos c2]
        refine Ev.congr (fun q => if_pos c2) ?_
        by_cases c3 : (takeV (takeT (takeT s).2.1).2.1).2.2 = 0
        · rw [if_pos c3]
          refine Ev.congr (fun q => (if_pos c3).trans (if_pos (by omega))) ?_
          have hw : IntKind.u64.wrap ((i : Int) + 1) = ((i + 1 : Nat) : Int) := w64 _ (by omega) (by omega)
          rw [hw]
          exact ih (i + 1) _ _ (by omega) (by omega) (by omega) (by simp; omega)
        · rw [if_neg c3]
          exact Ev.congr (fun q => if_neg c3) (Ev.now _)
      · rw [if_neg c2]
        exact Ev.congr (fun q => if_neg c2) (Ev.now _)
    · rw [if_neg c1]
      exact Ev.congr (fun q => if_neg c1) (Ev.now _)
theorem Take_ev (s : ByteArray) (hs : s.size ≤ 9223372036854775806) : Ev (fun q => rows_Take.f q s) (takeL s) := by
  obtain ⟨h1, h2, h3⟩ := takeV_range s
  unfold rows_Take.f takeL
  refine Ev.bind (TakeNum_ev s) ?_
  by_cases c1 : (takeV s).2.2 = 0
  · rw [if_pos c1]
    refine Ev.congr (fun q => if_pos c1) ?_
    by_cases c2 : (takeV s).1 > 32
    · rw [if_pos c2, decide_eq_true c2]
      exact Ev.step (f := fun _ => some _) (fun q => by simp only [rows_Take.j0]; rw [if_pos trivial]; rfl) (Ev.now _)
    · rw [if_neg c2, decide_eq_false c2]
      have e : (((takeV s).1.toNat : Nat) : Int) = (takeV s).1 := Int.toNat_of_nonneg h1
      refine Ev.step (fun q => ?_) (Take_l0 (takeV s).1.toNat (by omega) (takeV s).1.toNat 0 _ [] (by omega) (by omega) (by omega) (by simp))
      simp only [rows_Take.j0]
      rw [if_neg (by decide), e]
      rfl
  · rw [if_neg c1]
    refine Ev.congr (fun q => if_neg c1) ?_
    exact Ev.step (f := fun _ => some _) (fun q => by simp only [rows_Take.j0]; rw [if_pos trivial]; rfl) (Ev.now _)
theorem rTake_l0 (n : Nat) (hn : n ≤ 32) : ∀ (d i : Nat) (s : ByteArray) (out : List S64), d = n - i → i ≤ n → s.size ≤ 9223372036854775806 → out.length ≤ i → (∀ x ∈ out, x.f0.size ≤ 9223372036854775806) → Ev (fun q => ferruleref11_Take.l0 q (n : Int) s out (i : Int)) (takeRows d s out) := by
  intro d
  induction d with
  | zero =>
    intro i s out hd hi hs ho hsz
    refine Ev.step (fun q => by simp only [ferruleref11_Take.l0]; rw [if_neg (show ¬ (i : Int) < n by omega)]) ?_
    refine Ev.bind (rRight_ev out hsz) ?_
    unfold takeRows
    by_cases c : rightR out = true
    · refine Ev.congr (fun q => if_pos c) ?_
      rw [if_pos c]
      exact Ev.now _
    · refine Ev.congr (fun q => if_neg c) ?_
      rw [if_neg c]
      exact Ev.now _
  | succ d ih =>
    intro i s out hd hi hs ho hsz
    have hz1 := takeT_size s
    have hz2 := takeT_size (takeT s).2.1
    have hz3 := takeV_range (takeT (takeT s).2.1).2.1
    refine Ev.step (fun q => by simp only [ferruleref11_Take.l0]; rw [if_pos (show (i : Int) < n by omega)]) ?_
    refine Ev.bind (rTakeText_ev s hs) (Ev.bind (rTakeText_ev _ (by omega)) (Ev.bind (rTakeNum_ev _) ?_))
    unfold takeRows
    by_cases c1 : (takeT s).2.2 = 0
    · rw [if_pos c1]
      refine Ev.congr (fun q => if_pos c1) ?_
      by_cases c2 : (takeT (takeT s).2.1).2.2 = 0
      · rw [if_pos c2]
        refine Ev.congr (fun q => if_pos c2) ?_
        by_cases c3 : (takeV (takeT (takeT s).2.1).2.1).2.2 = 0
        · rw [if_pos c3]
          refine Ev.congr (fun q => (if_pos c3).trans (if_pos (by omega))) ?_
          have hw : IntKind.u64.wrap ((i : Int) + 1) = ((i + 1 : Nat) : Int) := w64 _ (by omega) (by omega)
          rw [hw]
          refine ih (i + 1) _ _ (by omega) (by omega) (by omega) (by simp; omega) (fun x hx => ?_)
          rcases List.mem_append.1 hx with hx | hx
          · exact hsz x hx
          · obtain rfl := List.mem_singleton.1 hx
            show (takeT s).1.size ≤ _
            omega
        · rw [if_neg c3]
          exact Ev.congr (fun q => if_neg c3) (Ev.now _)
      · rw [if_neg c2]
        exact Ev.congr (fun q => if_neg c2) (Ev.now _)
    · rw [if_neg c1]
      exact Ev.congr (fun q => if_neg c1) (Ev.now _)
theorem rTake_ev (s : ByteArray) (hs : s.size ≤ 9223372036854775806) : Ev (fun q => ferruleref11_Take.f q s) (takeL s) := by
  obtain ⟨h1, h2, h3⟩ := takeV_range s
  unfold ferruleref11_Take.f takeL
  refine Ev.bind (rTakeNum_ev s) ?_
  by_cases c1 : (takeV s).2.2 = 0
  · rw [if_pos c1]
    refine Ev.congr (fun q => if_pos c1) ?_
    by_cases c2 : (takeV s).1 > 32
    · rw [if_pos c2, decide_eq_true c2]
      exact Ev.step (f := fun _ => some _) (fun q => by simp only [ferruleref11_Take.j0]; rw [if_pos trivial]; rfl) (Ev.now _)
    · rw [if_neg c2, decide_eq_false c2]
      have e : (((takeV s).1.toNat : Nat) : Int) = (takeV s).1 := Int.toNat_of_nonneg h1
      refine Ev.step (fun q => ?_) (rTake_l0 (takeV s).1.toNat (by omega) (takeV s).1.toNat 0 _ [] (by omega) (by omega) (by omega) (by simp) (fun x hx => by cases hx))
      simp only [ferruleref11_Take.j0]
      rw [if_neg (by decide), e]
      rfl
  · rw [if_neg c1]
    refine Ev.congr (fun q => if_neg c1) ?_
    exact Ev.step (f := fun _ => some _) (fun q => by simp only [ferruleref11_Take.j0]; rw [if_pos trivial]; rfl) (Ev.now _)
/-! a list's bytes -/
def bytesO (l : List S64) : ByteArray × Int := if rightR l then (bytesV l, 0) else (⟨#[]⟩, 1)
theorem Bytes_eq (l : List S64) (hn : natR l = true) : rows_Bytes.f l = some (bytesO l) := by
  unfold rows_Bytes.f bytesO
  rw [hn, if_pos rfl]
  split <;> rfl
theorem rRow_ev (x : S64) (h0 : x.f0.size ≤ 16) (h1 : x.f1.size ≤ 32) (h2 : 0 ≤ x.f2) (h3 : x.f2 ≤ 4611686018427387903) : Ev (fun q => refRow q x) (rowB x) := by
  unfold refRow
  refine Ev.bind (rText_ev x.f0 (by omega)) (Ev.bind (rText_ev x.f1 (by omega)) (Ev.bind (rNum_ev x.f2 h2 (by omega)) ?_))
  have a := (textV_size x.f0 (by omega)).1
  have b := (textV_size x.f1 (by omega)).1
  have c := numV_size x.f2
  exact Ev.congr (fun q => if_pos (by omega)) (Ev.now _)
theorem rRows_ev : ∀ l : List S64, (∀ x ∈ l, x.f0.size ≤ 16 ∧ x.f1.size ≤ 32 ∧ 0 ≤ x.f2 ∧ x.f2 ≤ 4611686018427387903) → Ev (fun q => refRows q l) ((l.map (fun x => (rowB x).data.toList)).flatten)
  | [], _ => Ev.now _
  | x :: r, h => by
    obtain ⟨h0, h1, h2, h3⟩ := h x (List.mem_cons_self ..)
    unfold refRows
    exact Ev.bind (rRow_ev x h0 h1 h2 h3) (Ev.bind (rRows_ev r (fun y hy => h y (List.mem_cons_of_mem _ hy))) (Ev.now _))
theorem right_rows {l : List S64} (h : rightR l = true) (hn : natR l = true) : ∀ x ∈ l, x.f0.size ≤ 16 ∧ x.f1.size ≤ 32 ∧ 0 ≤ x.f2 ∧ x.f2 ≤ 4611686018427387903 := by
  intro x hx
  obtain ⟨j, hj, rfl⟩ := List.mem_iff_getElem.1 hx
  have a := ok_sizes ((right_ok h).2 j hj)
  have b := nat_at hn j hj
  rw [getElem!_pos l j hj] at a b
  omega
theorem rBytes_ev (l : List S64) (hn : natR l = true) (hs : ∀ x ∈ l, x.f0.size ≤ 9223372036854775806) : Ev (fun q => ferruleref11_Bytes.f q l) (bytesO l) := by
  unfold ferruleref11_Bytes.f bytesO
  refine Ev.bind (rRight_ev l hs) ?_
  by_cases c : rightR l = true
  · rw [if_pos c]
    refine Ev.congr (fun q => if_pos c) ?_
    have hl := (right_ok c).1
    refine Ev.bind (rNum_ev (l.length : Int) (by omega) (by omega)) ?_
    have := numV_size (l.length : Int)
    refine Ev.congr (fun q => if_pos (by omega)) ?_
    refine Ev.bind (rRows_ev l (right_rows c hn)) ?_
    have e : bytesV l = ⟨((numV l.length).1.data.toList ++ (l.map (fun x => (rowB x).data.toList)).flatten).toArray⟩ := by
      unfold bytesV bytesD
      rw [List.take_length]
    rw [e]
    exact Ev.now _
  · rw [if_neg c]
    exact Ev.congr (fun q => if_neg c) (Ev.now _)
/-! .. and back -/
def catB : List S64 → ByteArray
  | [] => ⟨#[]⟩
  | x :: r => rowB x ++ catB r
theorem catB_data : ∀ l : List S64, (catB l).data.toList = (l.map (fun x => (rowB x).data.toList)).flatten
  | [] => rfl
  | x :: r => by
    rw [catB, ByteArray.data_append, Array.toList_append, catB_data r, List.map_cons, List.flatten_cons]
theorem bytesV_cat (l : List S64) : bytesV l = (numV l.length).1 ++ catB l := by
  apply ByteArray.ext
  rw [ByteArray.data_append]
  apply Array.toList_inj.1
  rw [Array.toList_append, catB_data]
  unfold bytesV bytesD
  rw [List.take_length]
theorem takeRows_back : ∀ (l : List S64) (more : ByteArray) (out : List S64), (∀ x ∈ l, x.f0.size ≤ 16 ∧ x.f1.size ≤ 32 ∧ 0 ≤ x.f2 ∧ x.f2 ≤ 4611686018427387903) → rightR (out ++ l) = true → takeRows l.length (catB l ++ more) out = (out ++ l, more, 0)
  | [], more, out, _, hr => by
    rw [List.append_nil] at hr ⊢
    have : catB [] ++ more = more := by
      apply ByteArray.ext
      rw [ByteArray.data_append]
      show #[] ++ more.data = more.data
      simp
    rw [this, List.length_nil, takeRows, if_pos hr]
  | x :: r, more, out, h, hr => by
    obtain ⟨h0, h1, h2, h3⟩ := h x (List.mem_cons_self ..)
    have e : catB (x :: r) ++ more = (textV x.f0).1 ++ ((textV x.f1).1 ++ ((numV x.f2).1 ++ (catB r ++ more))) := by
      rw [catB]
      unfold rowB
      simp only [ByteArray.append_assoc]
    rw [List.length_cons, takeRows, e, takeT_text x.f0 (by omega), ]
    simp only []
    rw [if_pos trivial, takeT_text x.f1 (by omega)]
    simp only []
    rw [if_pos trivial, takeV_num x.f2 h2 (by omega)]
    simp only []
    rw [if_pos trivial, takeRows_back r more (out ++ [x]) (fun y hy => h y (List.mem_cons_of_mem _ hy)) (by rw [List.append_assoc]; exact hr), List.append_assoc]
    rfl
theorem takeL_back (l : List S64) (more : ByteArray) (hr : rightR l = true) (hn : natR l = true) : takeL (bytesV l ++ more) = (l, more, 0) := by
  have hl := (right_ok hr).1
  unfold takeL
  rw [bytesV_cat, ByteArray.append_assoc, takeV_num _ (by omega) (by omega)]
  simp only []
  rw [if_pos trivial, if_neg (by omega)]
  exact takeRows_back l more [] (right_rows hr hn) (by simpa using hr)
theorem bytesV_size (l : List S64) (hr : rightR l = true) (hn : natR l = true) : (bytesV l).size ≤ 8 + 72 * l.length := by
  rw [bytesV_cat, ByteArray.size_append]
  have h1 := numV_size (l.length : Int)
  have key : ∀ r : List S64, (∀ x ∈ r, x.f0.size ≤ 16 ∧ x.f1.size ≤ 32 ∧ 0 ≤ x.f2 ∧ x.f2 ≤ 4611686018427387903) → (catB r).size ≤ 72 * r.length := by
    intro r
    induction r with
    | nil => intro _; exact Nat.zero_le _
    | cons x r ih =>
      intro h
      obtain ⟨h0, h1, _⟩ := h x (List.mem_cons_self ..)
      have := rowB_size x h0 h1
      have := ih (fun y hy => h y (List.mem_cons_of_mem _ hy))
      rw [catB, ByteArray.size_append, List.length_cons]
      omega
  have := key l (right_rows hr hn)
  omega
end Go.Proofs.Ythfkbfahpgdnfaa.PAll
end
