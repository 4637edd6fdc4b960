/- Joined texts of the claim RowsKeeps (part 30): contracts of functions and plain laws. -/
import Derived.Laws.Slices
import Derived.Lib.ConvBytes
import Derived.Test.YthfkbfahpgdnfaaJRowsKeeps15
import Derived.Test.YthfkbfahpgdnfaaJRowsKeeps3
section
/- copy into a row of bytes that the call has made, and the string of it. -/
namespace Go.Proofs.Ythfkbfahpgdnfaa.PAll
open Go.RowKit Go.Proofs.YthfkbfahpgdnfaaW.PrintWords Go.Proofs.Ythfkbfahpgdnfaa
set_option linter.unusedVariables false
theorem copy_str (W : World) (s d n t : Nat) (xs rest : List Int) (hn : xs.length = n) (h8 : n ≤ 8) (hs : W.heap[s]? = some (.cells ((xs ++ rest).map (Value.int .u8)).toArray t (0, 0))) (hd : W.heap[d]? = some (.cells (List.replicate n (Value.int .u8 0)).toArray 5 (0, 0))) :
    ∃ W', (Builtin.copy_ #[99, 99] 3 #[.slice (some ⟨d, 0, none⟩) n n, .slice (some ⟨s, 0, none⟩) n 8]).run Try.prog W = .ok (goInt n) W' ∧ (convert 99 9 (.slice (some ⟨d, 0, none⟩) n n)).run Try.prog W' = .ok (.string (strOfNums xs)) W' ∧ W.grownBy W' (some d) := by
  have hi : (Try.prog.info? 5).map (·.size) = some 1 := by kernel_rfl
  have hc := run_copy_k (P := Try.prog) W 99 99 3 5 1 n d 0 n n ⟨s, 0, none⟩ n 8 (List.replicate n (Value.int .u8 0)) (xs.map (Value.int .u8)) 5 Try.underlying99 hi (by simp) (by simp [hn]) hd (by simp [hn])
    (fun j v hj => by
      rw [Addr.add_lit, Nat.zero_add, cell_row hs, List.map_append, List.getElem?_append_left (by have := (List.getElem?_eq_some_iff.1 hj).1; exact this)]
      exact hj)
    (fun v hv => by obtain ⟨x, _, rfl⟩ := List.mem_map.1 hv; rfl)
  have hsp : splice (List.replicate n (Value.int .u8 0)) 0 (xs.map (Value.int .u8)) = xs.map (Value.int .u8) := by
    unfold splice
    simp [hn]
  rw [hsp] at hc
  refine ⟨_, hc, ?_, grownBy_setRow _ _ _⟩
  have hh := setRow_heap W d _ (xs.map (Value.int .u8)).toArray 5 (0, 0) hd
  refine Kd.C_string (xs := xs) Try.underlying99 Try.underlying5 Try.underlying9 ⟨hn, by omega, fun _ => ⟨_, rfl, fun j p hj => ⟨[Value.int .u8 p], rfl, ?_, fun i u hu => ?_⟩⟩⟩
  · exact rfl
  · have hi0 : i = 0 := by have := (List.getElem?_eq_some_iff.1 hu).1; simp at this; omega
    subst hi0
    obtain rfl : Value.int .u8 p = u := by simpa using hu
    rw [Addr.add_lit, cell_row hh]
    show (xs.map (Value.int .u8))[0 + (j * 1 + 0)]? = _
    rw [show 0 + (j * 1 + 0) = j by omega, List.getElem?_map, hj]
    rfl
theorem wpList_copy_str (w : World) {ops : Array Oper} {rest : List Oper} {o : Oper} {a : Act} {Q : Exit → Act → World → Prop} (hgd : o.guard = none) (x y : Operand)
    (ho : o.op = .call { callee := .builtin .copy, args := #[x, y], argTypes := #[99, 99] }) (hty : o.type = 3) (s d n t : Nat) (xs ys : List Int) (hx : a.eval x = .slice (some ⟨d, 0, none⟩) n n) (hy : a.eval y = .slice (some ⟨s, 0, none⟩) n 8)
    (hn : xs.length = n) (h8 : n ≤ 8) (hs : w.heap[s]? = some (.cells ((xs ++ ys).map (Value.int .u8)).toArray t (0, 0))) (hd : w.heap[d]? = some (.cells (List.replicate n (Value.int .u8 0)).toArray 5 (0, 0)))
    (h : ∀ W', (convert 99 9 (.slice (some ⟨d, 0, none⟩) n n)).run Try.prog W' = .ok (.string (strOfNums xs)) W' → w.grownBy W' (some d) → wpList Try.prog ops Q rest (a.put o.dst (goInt n)) W') : wpList Try.prog ops Q (o :: rest) a w := by
  obtain ⟨W', h1, h2, h3⟩ := copy_str w s d n t xs ys hn h8 hs hd
  exact wpList_copy_run w hgd x y 99 99 ho _ _ hx hy (by rw [hty]; exact h1) (h W' h2 h3)
end Go.Proofs.Ythfkbfahpgdnfaa.PAll
end
