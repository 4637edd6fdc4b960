/- Joined texts of the claim RowsFits (part 25): contracts of functions and plain laws. -/
import Derived.Test.YthfkbfahpgdnfaaJRowsFits1
import Derived.Test.YthfkbfahpgdnfaaJRowsFits2
import Derived.Lib.ConvBytes
import Derived.Laws.Slices
import Derived.Test.YthfkbfahpgdnfaaJRowsFits24
section
/- copy into a row of bytes that the call has made, and the string of it. -/
namespace Go.Proofs.Ythfkbfahpgdnfaa.PAll
open Go.RowKit Go.Proofs.YthfkbfahpgdnfaaW.PrintWords Go.Proofs.Ythfkbfahpgdnfaa
set_option linter.unusedVariables false
theorem copy_str (W : World) (s d n t : Nat) (xs rest : List Int) (hn : xs.length = n) (h8 : n ≤ 8) (hs : W.heap[s]? = some (.cells ((xs ++ rest).map (Value.int .u8)).toArray t (0, 0))) (hd : W.heap[d]? = some (.cells (List.replicate n (Value.int .u8 0)).toArray 5 (0, 0))) :
    ∃ W', (Builtin.copy_ #[99, 99] 3 #[.slice (some ⟨d, 0, none⟩) n n, .slice (some ⟨s, 0, none⟩) n 8]).run Try.prog W = .ok (goInt n) W' ∧ (convert 99 9 (.slice (some ⟨d, 0, none⟩) n n)).run Try.prog W' = .ok (.string (strOfNums xs)) W' ∧ W.grownBy W' (some d) := by
  have hi : (Try.prog.info? 5).map (·.size) = some 1 := by kernel_rfl
  have hc := run_copy_k (P := Try.prog) W 99 99 3 5 1 n d 0 n n ⟨s, 0, none⟩ n 8 (List.replicate n (Value.int .u8 0)) (xs.map (Value.int .u8)) 5 Try.underlying99 hi (by simp) (by simp [hn]) hd (by simp [hn])
    (fun j v hj => by
      rw [Addr.add_lit, Nat.zero_add, cell_row hs, List.map_append, List.getElem?_append_left (by have := (List.getElem?_eq_some_iff.1 hj).1; exact this)]
      exact hj)
    (fun v hv => by obtain ⟨x, _, rfl⟩ := List.mem_map.1 hv; rfl)
  have hsp : splice (List.replicate n (Value.int .u8 0)) 0 (xs.map (Value.int .u8)) = xs.map (Value.int .u8) := by
    unfold splice
    simp [hn]
  rw [hsp] at hc
  refine ⟨_, hc, ?_, grownBy_setRow _ _ _⟩
  have hh := setRow_heap W d _ (xs.map (Value.int .u8)).toArray 5 (0, 0) hd
  refine Kd.C_string (xs := xs) Try.underlying99 Try.underlying5 Try.underlying9 ⟨hn, by omega, fun _ => ⟨_, rfl, fun j p hj => ⟨[Value.int .u8 p], rfl, ?_, fun i u hu => ?_⟩⟩⟩
  · exact rfl
  · have hi0 : i = 0 := by have := (List.getElem?_eq_some_iff.1 hu).1; simp at this; omega
    subst hi0
    obtain rfl : Value.int .u8 p = u := by simpa using hu
    rw [Addr.add_lit, cell_row hh]
    show (xs.map (Value.int .u8))[0 + (j * 1 + 0)]? = _
    rw [show 0 + (j * 1 + 0) = j by omega, List.getElem?_map, hj]
    rfl
theorem wpList_copy_str (w : World) {ops : Array Oper} {rest : List Oper} {o : Oper} {a : Act} {Q : Exit → Act → World → Prop} (hgd : o.guard = none) (x y : Operand)
    (ho : o.op = .call { callee := .builtin .copy, args := #[x, y], argTypes := #[99, 99] }) (hty : o.type = 3) (s d n t : Nat) (xs ys : List Int) (hx : a.eval x = .slice (some ⟨d, 0, none⟩) n n) (hy : a.eval y = .slice (some ⟨s, 0, none⟩) n 8)
    (hn : xs.length = n) (h8 : n ≤ 8) (hs : w.heap[s]? = some (.cells ((xs ++ ys).map (Value.int .u8)).toArray t (0, 0))) (hd : w.heap[d]? = some (.cells (List.replicate n (Value.int .u8 0)).toArray 5 (0, 0)))
    (h : ∀ W', (convert 99 9 (.slice (some ⟨d, 0, none⟩) n n)).run Try.prog W' = .ok (.string (strOfNums xs)) W' → w.grownBy W' (some d) → wpList Try.prog ops Q rest (a.put o.dst (goInt n)) W') : wpList Try.prog ops Q (o :: rest) a w := by
  obtain ⟨W', h1, h2, h3⟩ := copy_str w s d n t xs ys hn h8 hs hd
  exact wpList_copy_run w hgd x y 99 99 ho _ _ hx hy (by rw [hty]; exact h1) (h W' h2 h3)
end Go.Proofs.Ythfkbfahpgdnfaa.PAll
end
section
-- Printed by this session's pr.sh (the kit's print.py, several laws in one namespace). Not trusted: Lean checks it.
namespace Go.Proofs.Ythfkbfahpgdnfaa.PAll
open Go.RowKit Go.Proofs.YthfkbfahpgdnfaaW.PrintWords Go.Proofs.YthfkbfahpgdnfaaW.PrintLast Go.Proofs.YthfkbfahpgdnfaaW.PrintMore
attribute [local go_sem] max2_int min2_int max_two min_two max_three min_three max_four min_four   -- for this text's walks alone
set_option linter.unusedVariables false
set_option linter.unusedSimpArgs false

/-! ### pack_Size: function 79 -/
def pack_Size.f (a0 : Int) : Option (Int) := (bits_Len64.f a0).bind fun t297 => (if t297 > 62 then (some 0) else (if t297 > 30 then (some 8) else (if t297 > 14 then (some 4) else (if t297 > 6 then (some 2) else (some 1)))))
set_option maxHeartbeats 8000000 in
set_option maxRecDepth 100000 in
theorem pack_Size.calls (a0 : Int) (r : Int) (w : World) (h : pack_Size.f a0 = some r) :
    Calls Try.prog 79 #[.int .u64 a0] w fun e w' => e = .returned (.int .i64 r) ∧ Below w.heap.size w w' := by
  have HB := Aside0.mk (Below.refl w.heap.size w)
  have H : ((bits_Len64.f a0).bind fun t297 => (if t297 > 62 then (some 0) else (if t297 > 30 then (some 8) else (if t297 > 14 then (some 4) else (if t297 > 6 then (some 2) else (some 1)))))) = some r := h
  clear h
  replace H := Option.bind_eq_some_iff.mp H
  obtain ⟨t297, A20, H⟩ := H
  replace H : (if t297 > 62 then (some 0) else (if t297 > 30 then (some 8) else (if t297 > 14 then (some 4) else (if t297 > 6 then (some 2) else (some 1))))) = some r := H
  have A2 := Aside0.mk A20
  clear A20
  by_cases c3 : t297 > 62
  · rw [if_pos c3] at H
    have c3b0 : decide (62 < t297) = true := decide_eq_true c3
    clear c3
    obtain rfl := Option.some.inj H
    go_enter Try.func79, Try.ntmps79
    go_wp2_with (first | ((with_reducible refine gate_callee (f := 85) rfl ?_); refine goesL_ (some 5) rfl rfl Try.func85 (by kernel_rfl) rfl #[.int .u64 a0] rfl (by (try simp only [List.map_toArray, List.map_cons, List.map_nil]); first | done | rfl | (simp only [List.length_drop, List.length_take]; rfl)) ?_; (with_reducible refine (bits_Len64.calls a0 t297 _ A2.out).mono ?_); rintro e w4 ⟨rfl, hb⟩; refine ⟨_, rfl, ?_⟩; have n0_ := Aside0.mk (below_step (by repeat (first | (with_reducible first | exact HB.out | apply below_alloc | apply pw_below_drewN | apply below_drew1) | exact HB.out)) hb); clear HB; have HB := n0_; clear n0_; (try clear hb); (try clear hb2); (try clear hk); (try clear hi)))
    go_ret
    exact ⟨by first | rfl | (simp [errW_none, errW_some] <;> rfl) | (simp [*, errW_none, errW_some] <;> rfl), by repeat (first | (with_reducible first | exact HB.out | apply below_alloc | apply pw_below_drewN | apply below_drew1) | exact HB.out)⟩
  · rw [if_neg c3] at H
    have c3b0 : decide (62 < t297) = false := decide_eq_false c3
    clear c3
    by_cases c5 : t297 > 30
    · rw [if_pos c5] at H
      have c5b0 : decide (30 < t297) = true := decide_eq_true c5
      clear c5
      obtain rfl := Option.some.inj H
      go_enter Try.func79, Try.ntmps79
      go_wp2_with (first | ((with_reducible refine gate_callee (f := 85) rfl ?_); refine goesL_ (some 5) rfl rfl Try.func85 (by kernel_rfl) rfl #[.int .u64 a0] rfl (by (try simp only [List.map_toArray, List.map_cons, List.map_nil]); first | done | rfl | (simp only [List.length_drop, List.length_take]; rfl)) ?_; (with_reducible refine (bits_Len64.calls a0 t297 _ A2.out).mono ?_); rintro e w6 ⟨rfl, hb⟩; refine ⟨_, rfl, ?_⟩; have n0_ := Aside0.mk (below_step (by repeat (first | (with_reducible first | exact HB.out | apply below_alloc | apply pw_below_drewN | apply below_drew1) | exact HB.out)) hb); clear HB; have HB := n0_; clear n0_; (try clear hb); (try clear hb2); (try clear hk); (try clear hi)))
      go_ret
      exact ⟨by first | rfl | (simp [errW_none, errW_some] <;> rfl) | (simp [*, errW_none, errW_some] <;> rfl), by repeat (first | (with_reducible first | exact HB.out | apply below_alloc | apply pw_below_drewN | apply below_drew1) | exact HB.out)⟩
    · rw [if_neg c5] at H
      have c5b0 : decide (30 < t297) = false := decide_eq_false c5
      clear c5
      by_cases c7 : t297 > 14
      · rw [if_pos c7] at H
        have c7b0 : decide (14 < t297) = true := decide_eq_true c7
        clear c7
        obtain rfl := Option.some.inj H
        go_enter Try.func79, Try.ntmps79
        go_wp2_with (first | ((with_reducible refine gate_callee (f := 85) rfl ?_); refine goesL_ (some 5) rfl rfl Try.func85 (by kernel_rfl) rfl #[.int .u64 a0] rfl (by (try simp only [List.map_toArray, List.map_cons, List.map_nil]); first | done | rfl | (simp only [List.length_drop, List.length_take]; rfl)) ?_; (with_reducible refine (bits_Len64.calls a0 t297 _ A2.out).mono ?_); rintro e w8 ⟨rfl, hb⟩; refine ⟨_, rfl, ?_⟩; have n0_ := Aside0.mk (below_step (by repeat (first | (with_reducible first | exact HB.out | apply below_alloc | apply pw_below_drewN | apply below_drew1) | exact HB.out)) hb); clear HB; have HB := n0_; clear n0_; (try clear hb); (try clear hb2); (try clear hk); (try clear hi)))
        go_ret
        exact ⟨by first | rfl | (simp [errW_none, errW_some] <;> rfl) | (simp [*, errW_none, errW_some] <;> rfl), by repeat (first | (with_reducible first | exact HB.out | apply below_alloc | apply pw_below_drewN | apply below_drew1) | exact HB.out)⟩
      · rw [if_neg c7] at H
        have c7b0 : decide (14 < t297) = false := decide_eq_false c7
        clear c7
        by_cases c9 : t297 > 6
        · rw [if_pos c9] at H
          have c9b0 : decide (6 < t297) = true := decide_eq_true c9
          clear c9
          obtain rfl := Option.some.inj H
          go_enter Try.func79, Try.ntmps79
          go_wp2_with (first | ((with_reducible refine gate_callee (f := 85) rfl ?_); refine goesL_ (some 5) rfl rfl Try.func85 (by kernel_rfl) rfl #[.int .u64 a0] rfl (by (try simp only [List.map_toArray, List.map_cons, List.map_nil]); first | done | rfl | (simp only [List.length_drop, List.length_take]; rfl)) ?_; (with_reducible refine (bits_Len64.calls a0 t297 _ A2.out).mono ?_); rintro e w10 ⟨rfl, hb⟩; refine ⟨_, rfl, ?_⟩; have n0_ := Aside0.mk (below_step (by repeat (first | (with_reducible first | exact HB.out | apply below_alloc | apply pw_below_drewN | apply below_drew1) | exact HB.out)) hb); clear HB; have HB := n0_; clear n0_; (try clear hb); (try clear hb2); (try clear hk); (try clear hi)))
          go_ret
          exact ⟨by first | rfl | (simp [errW_none, errW_some] <;> rfl) | (simp [*, errW_none, errW_some] <;> rfl), by repeat (first | (with_reducible first | exact HB.out | apply below_alloc | apply pw_below_drewN | apply below_drew1) | exact HB.out)⟩
        · rw [if_neg c9] at H
          have c9b0 : decide (6 < t297) = false := decide_eq_false c9
          clear c9
          obtain rfl := Option.some.inj H
          go_enter Try.func79, Try.ntmps79
          go_wp2_with (first | ((with_reducible refine gate_callee (f := 85) rfl ?_); refine goesL_ (some 5) rfl rfl Try.func85 (by kernel_rfl) rfl #[.int .u64 a0] rfl (by (try simp only [List.map_toArray, List.map_cons, List.map_nil]); first | done | rfl | (simp only [List.length_drop, List.length_take]; rfl)) ?_; (with_reducible refine (bits_Len64.calls a0 t297 _ A2.out).mono ?_); rintro e w11 ⟨rfl, hb⟩; refine ⟨_, rfl, ?_⟩; have n0_ := Aside0.mk (below_step (by repeat (first | (with_reducible first | exact HB.out | apply below_alloc | apply pw_below_drewN | apply below_drew1) | exact HB.out)) hb); clear HB; have HB := n0_; clear n0_; (try clear hb); (try clear hb2); (try clear hk); (try clear hi)))
          go_ret
          exact ⟨by first | rfl | (simp [errW_none, errW_some] <;> rfl) | (simp [*, errW_none, errW_some] <;> rfl), by repeat (first | (with_reducible first | exact HB.out | apply below_alloc | apply pw_below_drewN | apply below_drew1) | exact HB.out)⟩

end Go.Proofs.Ythfkbfahpgdnfaa.PAll
end
