/- Joined texts of the claim RowsBytes (part 9): contracts of functions and plain laws. -/
import Derived.Test.YthfkbfahpgdnfaaJRowsBytes2
import Derived.WalkKit
import Derived.WalkLawsBesides
import Derived.Test.YthfkbfahpgdnfaaJRowsBytes1
import Derived.Lib.ConvBytes
import Derived.Laws.Slices
section
/- math/bits.Len64, as the printed texts call it. -/
namespace Go.Proofs.Ythfkbfahpgdnfaa.PAll
open Go.RowKit Go.Proofs.YthfkbfahpgdnfaaW.PrintWords
set_option linter.unusedVariables false
def lenT (t : Int) : Int := if 128 ≤ t then 8 else if 64 ≤ t then 7 else if 32 ≤ t then 6 else if 16 ≤ t then 5 else if 8 ≤ t then 4 else if 4 ≤ t then 3 else if 2 ≤ t then 2 else if 1 ≤ t then 1 else 0
def len3 (x n : Int) : Int := if 256 ≤ x then n + 8 + lenT (x / 256) else n + lenT x
def len2 (x n : Int) : Int := if 65536 ≤ x then len3 (x / 65536) (n + 16) else len3 x n
def len64 (x : Int) : Int := if 4294967296 ≤ x then len2 (x / 4294967296) 32 else len2 x 0
def bits_Len64.f (a0 : Int) : Option Int := if 0 ≤ a0 ∧ a0 < 18446744073709551616 then some (len64 a0) else none
set_option maxRecDepth 100000 in
theorem tab_ok : ∀ t : Fin 256, ((((⟨#[0, 1, 2, 2, 3, 3, 3, 3, 4, 4, 4, 4, 4, 4, 4, 4, 5, 5, 5, 5, 5, 5, 5, 5, 5, 5, 5, 5, 5, 5, 5, 5, 6, 6, 6, 6, 6, 6, 6, 6, 6, 6, 6, 6, 6, 6, 6, 6, 6, 6, 6, 6, 6, 6, 6, 6, 6, 6, 6, 6, 6, 6, 6, 6, 7, 7, 7, 7, 7, 7, 7, 7, 7, 7, 7, 7, 7, 7, 7, 7, 7, 7, 7, 7, 7, 7, 7, 7, 7, 7, 7, 7, 7, 7, 7, 7, 7, 7, 7, 7, 7, 7, 7, 7, 7, 7, 7, 7, 7, 7, 7, 7, 7, 7, 7, 7, 7, 7, 7, 7, 7, 7, 7, 7, 7, 7, 7, 7, 8, 8, 8, 8, 8, 8, 8, 8, 8, 8, 8, 8, 8, 8, 8, 8, 8, 8, 8, 8, 8, 8, 8, 8, 8, 8, 8, 8, 8, 8, 8, 8, 8, 8, 8, 8, 8, 8, 8, 8, 8, 8, 8, 8, 8, 8, 8, 8, 8, 8, 8, 8, 8, 8, 8, 8, 8, 8, 8, 8, 8, 8, 8, 8, 8, 8, 8, 8, 8, 8, 8, 8, 8, 8, 8, 8, 8, 8, 8, 8, 8, 8, 8, 8, 8, 8, 8, 8, 8, 8, 8, 8, 8, 8, 8, 8, 8, 8, 8, 8, 8, 8, 8, 8, 8, 8, 8, 8, 8, 8, 8, 8, 8, 8, 8, 8, 8, 8, 8, 8, 8, 8, 8, 8, 8, 8, 8, 8]⟩ : ByteArray)[t.1]'(by show t.1 < 256; exact t.2)).toNat : Nat) : Int) = lenT (t.1 : Int) := by decide +kernel
theorem lenT_range (t : Int) : 0 ≤ lenT t ∧ lenT t ≤ 8 := by unfold lenT; repeat' split <;> omega
theorem fin_len (n : Int) (b : Int) (t : Int) (hb : b = lenT t) (hn : 0 ≤ n ∧ n ≤ 56) : wrap64 (n + wrap64 b) = n + lenT t := by
  have := lenT_range t
  subst hb
  unfold wrap64
  omega
theorem fin_len0 (b : Int) (t : Int) (hb : b = lenT t) : wrap64 (wrap64 b) = lenT t := by
  have := lenT_range t
  subst hb
  unfold wrap64
  omega
set_option maxHeartbeats 2000000 in
set_option maxRecDepth 100000 in
theorem bits_Len64.calls (a0 : Int) (r : Int) (w : World) (h : bits_Len64.f a0 = some r) :
    Calls Try.prog 85 #[.int .u64 a0] w fun e w' => e = .returned (.int .i64 r) ∧ Below w.heap.size w w' := by
  unfold bits_Len64.f at h
  split at h
  · rename_i hb
    obtain ⟨hb0, hb1⟩ := hb
    obtain rfl := Option.some.inj h
    clear h
    by_cases h1 : 4294967296 ≤ a0
    · by_cases h2 : 65536 ≤ a0 / 4294967296
      · by_cases h3 : 256 ≤ a0 / 4294967296 / 65536
        · have d1 : decide (4294967296 ≤ a0) = true := decide_eq_true h1
          have d2 : decide (65536 ≤ a0 / 4294967296) = true := decide_eq_true h2
          have d3 : decide (256 ≤ a0 / 4294967296 / 65536) = true := decide_eq_true h3
          have e : len64 a0 = 56 + lenT (a0 / 4294967296 / 65536 / 256) := by unfold len64 len2 len3; rw [if_pos h1, if_pos h2, if_pos h3]; try omega
          have ht : ((a0 / 4294967296 / 65536 / 256).toNat : Int) = a0 / 4294967296 / 65536 / 256 := by omega
          have hlt : (a0 / 4294967296 / 65536 / 256).toNat < 256 := by omega
          have hk := tab_ok ⟨(a0 / 4294967296 / 65536 / 256).toNat, hlt⟩
          dsimp only at hk
          rw [ht] at hk
          have HK := Aside0.mk hk
          have HE := Aside0.mk e
          clear hk e
          go_enter Try.func85, Try.ntmps85
          go_wp2
          go_ret
          refine ⟨congrArg (fun q => Ending.returned (Value.int .i64 q)) ?_, Below.refl _ _⟩
          rw [HE.out]
          exact fin_len 56 _ _ HK.out (by omega)
        · have d1 : decide (4294967296 ≤ a0) = true := decide_eq_true h1
          have d2 : decide (65536 ≤ a0 / 4294967296) = true := decide_eq_true h2
          have d3 : decide (256 ≤ a0 / 4294967296 / 65536) = false := decide_eq_false h3
          have e : len64 a0 = 48 + lenT (a0 / 4294967296 / 65536) := by unfold len64 len2 len3; rw [if_pos h1, if_pos h2, if_neg h3]; try omega
          have ht : ((a0 / 4294967296 / 65536).toNat : Int) = a0 / 4294967296 / 65536 := by omega
          have hlt : (a0 / 4294967296 / 65536).toNat < 256 := by omega
          have hk := tab_ok ⟨(a0 / 4294967296 / 65536).toNat, hlt⟩
          dsimp only at hk
          rw [ht] at hk
          have HK := Aside0.mk hk
          have HE := Aside0.mk e
          clear hk e
          go_enter Try.func85, Try.ntmps85
          go_wp2
          go_ret
          refine ⟨congrArg (fun q => Ending.returned (Value.int .i64 q)) ?_, Below.refl _ _⟩
          rw [HE.out]
          exact fin_len 48 _ _ HK.out (by omega)
      · by_cases h3 : 256 ≤ a0 / 4294967296
        · have d1 : decide (4294967296 ≤ a0) = true := decide_eq_true h1
          have d2 : decide (65536 ≤ a0 / 4294967296) = false := decide_eq_false h2
          have d3 : decide (256 ≤ a0 / 4294967296) = true := decide_eq_true h3
          have e : len64 a0 = 40 + lenT (a0 / 4294967296 / 256) := by unfold len64 len2 len3; rw [if_pos h1, if_neg h2, if_pos h3]; try omega
          have ht : ((a0 / 4294967296 / 256).toNat : Int) = a0 / 4294967296 / 256 := by omega
          have hlt : (a0 / 4294967296 / 256).toNat < 256 := by omega
          have hk := tab_ok ⟨(a0 / 4294967296 / 256).toNat, hlt⟩
          dsimp only at hk
          rw [ht] at hk
          have HK := Aside0.mk hk
          have HE := Aside0.mk e
          clear hk e
          go_enter Try.func85, Try.ntmps85
          go_wp2
          go_ret
          refine ⟨congrArg (fun q => Ending.returned (Value.int .i64 q)) ?_, Below.refl _ _⟩
          rw [HE.out]
          exact fin_len 40 _ _ HK.out (by omega)
        · have d1 : decide (4294967296 ≤ a0) = true := decide_eq_true h1
          have d2 : decide (65536 ≤ a0 / 4294967296) = false := decide_eq_false h2
          have d3 : decide (256 ≤ a0 / 4294967296) = false := decide_eq_false h3
          have e : len64 a0 = 32 + lenT (a0 / 4294967296) := by unfold len64 len2 len3; rw [if_pos h1, if_neg h2, if_neg h3]; try omega
          have ht : ((a0 / 4294967296).toNat : Int) = a0 / 4294967296 := by omega
          have hlt : (a0 / 4294967296).toNat < 256 := by omega
          have hk := tab_ok ⟨(a0 / 4294967296).toNat, hlt⟩
          dsimp only at hk
          rw [ht] at hk
          have HK := Aside0.mk hk
          have HE := Aside0.mk e
          clear hk e
          go_enter Try.func85, Try.ntmps85
          go_wp2
          go_ret
          refine ⟨congrArg (fun q => Ending.returned (Value.int .i64 q)) ?_, Below.refl _ _⟩
          rw [HE.out]
          exact fin_len 32 _ _ HK.out (by omega)
    · by_cases h2 : 65536 ≤ a0
      · by_cases h3 : 256 ≤ a0 / 65536
        · have d1 : decide (4294967296 ≤ a0) = false := decide_eq_false h1
          have d2 : decide (65536 ≤ a0) = true := decide_eq_true h2
          have d3 : decide (256 ≤ a0 / 65536) = true := decide_eq_true h3
          have e : len64 a0 = 24 + lenT (a0 / 65536 / 256) := by unfold len64 len2 len3; rw [if_neg h1, if_pos h2, if_pos h3]; try omega
          have ht : ((a0 / 65536 / 256).toNat : Int) = a0 / 65536 / 256 := by omega
          have hlt : (a0 / 65536 / 256).toNat < 256 := by omega
          have hk := tab_ok ⟨(a0 / 65536 / 256).toNat, hlt⟩
          dsimp only at hk
          rw [ht] at hk
          have HK := Aside0.mk hk
          have HE := Aside0.mk e
          clear hk e
          go_enter Try.func85, Try.ntmps85
          go_wp2
          go_ret
          refine ⟨congrArg (fun q => Ending.returned (Value.int .i64 q)) ?_, Below.refl _ _⟩
          rw [HE.out]
          exact fin_len 24 _ _ HK.out (by omega)
        · have d1 : decide (4294967296 ≤ a0) = false := decide_eq_false h1
          have d2 : decide (65536 ≤ a0) = true := decide_eq_true h2
          have d3 : decide (256 ≤ a0 / 65536) = false := decide_eq_false h3
          have e : len64 a0 = 16 + lenT (a0 / 65536) := by unfold len64 len2 len3; rw [if_neg h1, if_pos h2, if_neg h3]; try omega
          have ht : ((a0 / 65536).toNat : Int) = a0 / 65536 := by omega
          have hlt : (a0 / 65536).toNat < 256 := by omega
          have hk := tab_ok ⟨(a0 / 65536).toNat, hlt⟩
          dsimp only at hk
          rw [ht] at hk
          have HK := Aside0.mk hk
          have HE := Aside0.mk e
          clear hk e
          go_enter Try.func85, Try.ntmps85
          go_wp2
          go_ret
          refine ⟨congrArg (fun q => Ending.returned (Value.int .i64 q)) ?_, Below.refl _ _⟩
          rw [HE.out]
          exact fin_len 16 _ _ HK.out (by omega)
      · by_cases h3 : 256 ≤ a0
        · have d1 : decide (4294967296 ≤ a0) = false := decide_eq_false h1
          have d2 : decide (65536 ≤ a0) = false := decide_eq_false h2
          have d3 : decide (256 ≤ a0) = true := decide_eq_true h3
          have e : len64 a0 = 8 + lenT (a0 / 256) := by unfold len64 len2 len3; rw [if_neg h1, if_neg h2, if_pos h3]; try omega
          have ht : ((a0 / 256).toNat : Int) = a0 / 256 := by omega
          have hlt : (a0 / 256).toNat < 256 := by omega
          have hk := tab_ok ⟨(a0 / 256).toNat, hlt⟩
          dsimp only at hk
          rw [ht] at hk
          have HK := Aside0.mk hk
          have HE := Aside0.mk e
          clear hk e
          go_enter Try.func85, Try.ntmps85
          go_wp2
          go_ret
          refine ⟨congrArg (fun q => Ending.returned (Value.int .i64 q)) ?_, Below.refl _ _⟩
          rw [HE.out]
          exact fin_len 8 _ _ HK.out (by omega)
        · have d1 : decide (4294967296 ≤ a0) = false := decide_eq_false h1
          have d2 : decide (65536 ≤ a0) = false := decide_eq_false h2
          have d3 : decide (256 ≤ a0) = false := decide_eq_false h3
          have e : len64 a0 = 0 + lenT (a0) := by unfold len64 len2 len3; rw [if_neg h1, if_neg h2, if_neg h3]; try omega
          have ht : ((a0).toNat : Int) = a0 := by omega
          have hlt : (a0).toNat < 256 := by omega
          have hk := tab_ok ⟨(a0).toNat, hlt⟩
          dsimp only at hk
          rw [ht] at hk
          have HK := Aside0.mk hk
          have HE := Aside0.mk e
          clear hk e
          go_enter Try.func85, Try.ntmps85
          go_wp2
          go_ret
          refine ⟨congrArg (fun q => Ending.returned (Value.int .i64 q)) ?_, Below.refl _ _⟩
          rw [HE.out]
          rw [Int.zero_add]; exact fin_len0 _ _ HK.out
  · cases h
end Go.Proofs.Ythfkbfahpgdnfaa.PAll
end
section
/- copy into a row of bytes that the call has made, and the string of it. -/
namespace Go.Proofs.Ythfkbfahpgdnfaa.PAll
open Go.RowKit Go.Proofs.YthfkbfahpgdnfaaW.PrintWords Go.Proofs.Ythfkbfahpgdnfaa
set_option linter.unusedVariables false
theorem copy_str (W : World) (s d n t : Nat) (xs rest : List Int) (hn : xs.length = n) (h8 : n ≤ 8) (hs : W.heap[s]? = some (.cells ((xs ++ rest).map (Value.int .u8)).toArray t (0, 0))) (hd : W.heap[d]? = some (.cells (List.replicate n (Value.int .u8 0)).toArray 5 (0, 0))) :
    ∃ W', (Builtin.copy_ #[99, 99] 3 #[.slice (some ⟨d, 0, none⟩) n n, .slice (some ⟨s, 0, none⟩) n 8]).run Try.prog W = .ok (goInt n) W' ∧ (convert 99 9 (.slice (some ⟨d, 0, none⟩) n n)).run Try.prog W' = .ok (.string (strOfNums xs)) W' ∧ W.grownBy W' (some d) := by
  have hi : (Try.prog.info? 5).map (·.size) = some 1 := by kernel_rfl
  have hc := run_copy_k (P := Try.prog) W 99 99 3 5 1 n d 0 n n ⟨s, 0, none⟩ n 8 (List.replicate n (Value.int .u8 0)) (xs.map (Value.int .u8)) 5 Try.underlying99 hi (by simp) (by simp [hn]) hd (by simp [hn])
    (fun j v hj => by
      rw [Addr.add_lit, Nat.zero_add, cell_row hs, List.map_append, List.getElem?_append_left (by have := (List.getElem?_eq_some_iff.1 hj).1; exact this)]
      exact hj)
    (fun v hv => by obtain ⟨x, _, rfl⟩ := List.mem_map.1 hv; rfl)
  have hsp : splice (List.replicate n (Value.int .u8 0)) 0 (xs.map (Value.int .u8)) = xs.map (Value.int .u8) := by
    unfold splice
    simp [hn]
  rw [hsp] at hc
  refine ⟨_, hc, ?_, grownBy_setRow _ _ _⟩
  have hh := setRow_heap W d _ (xs.map (Value.int .u8)).toArray 5 (0, 0) hd
  refine Kd.C_string (xs := xs) Try.underlying99 Try.underlying5 Try.underlying9 ⟨hn, by omega, fun _ => ⟨_, rfl, fun j p hj => ⟨[Value.int .u8 p], rfl, ?_, fun i u hu => ?_⟩⟩⟩
  · exact rfl
  · have hi0 : i = 0 := by have := (List.getElem?_eq_some_iff.1 hu).1; simp at this; omega
    subst hi0
    obtain rfl : Value.int .u8 p = u := by simpa using hu
    rw [Addr.add_lit, cell_row hh]
    show (xs.map (Value.int .u8))[0 + (j * 1 + 0)]? = _
    rw [show 0 + (j * 1 + 0) = j by omega, List.getElem?_map, hj]
    rfl
theorem wpList_copy_str (w : World) {ops : Array Oper} {rest : List Oper} {o : Oper} {a : Act} {Q : Exit → Act → World → Prop} (hgd : o.guard = none) (x y : Operand)
    (ho : o.op = .call { callee := .builtin .copy, args := #[x, y], argTypes := #[99, 99] }) (hty : o.type = 3) (s d n t : Nat) (xs ys : List Int) (hx : a.eval x = .slice (some ⟨d, 0, none⟩) n n) (hy : a.eval y = .slice (some ⟨s, 0, none⟩) n 8)
    (hn : xs.length = n) (h8 : n ≤ 8) (hs : w.heap[s]? = some (.cells ((xs ++ ys).map (Value.int .u8)).toArray t (0, 0))) (hd : w.heap[d]? = some (.cells (List.replicate n (Value.int .u8 0)).toArray 5 (0, 0)))
    (h : ∀ W', (convert 99 9 (.slice (some ⟨d, 0, none⟩) n n)).run Try.prog W' = .ok (.string (strOfNums xs)) W' → w.grownBy W' (some d) → wpList Try.prog ops Q rest (a.put o.dst (goInt n)) W') : wpList Try.prog ops Q (o :: rest) a w := by
  obtain ⟨W', h1, h2, h3⟩ := copy_str w s d n t xs ys hn h8 hs hd
  exact wpList_copy_run w hgd x y 99 99 ho _ _ hx hy (by rw [hty]; exact h1) (h W' h2 h3)
end Go.Proofs.Ythfkbfahpgdnfaa.PAll
end
section
-- Printed by this session's pr.sh (the kit's print.py, several laws in one namespace). Not trusted: Lean checks it.
namespace Go.Proofs.Ythfkbfahpgdnfaa.PAll
open Go.RowKit Go.Proofs.YthfkbfahpgdnfaaW.PrintWords Go.Proofs.YthfkbfahpgdnfaaW.PrintLast Go.Proofs.YthfkbfahpgdnfaaW.PrintMore
attribute [local go_sem] max2_int min2_int max_two min_two max_three min_three max_four min_four   -- for this text's walks alone
set_option linter.unusedVariables false
set_option linter.unusedSimpArgs false

/-! ### pack_Size: function 79 -/
def pack_Size.f (a0 : Int) : Option (Int) := (bits_Len64.f a0).bind fun t297 => (if t297 > 62 then (some 0) else (if t297 > 30 then (some 8) else (if t297 > 14 then (some 4) else (if t297 > 6 then (some 2) else (some 1)))))
set_option maxHeartbeats 8000000 in
set_option maxRecDepth 100000 in
theorem pack_Size.calls (a0 : Int) (r : Int) (w : World) (h : pack_Size.f a0 = some r) :
    Calls Try.prog 79 #[.int .u64 a0] w fun e w' => e = .returned (.int .i64 r) ∧ Below w.heap.size w w' := by
  have HB := Aside0.mk (Below.refl w.heap.size w)
  have H : ((bits_Len64.f a0).bind fun t297 => (if t297 > 62 then (some 0) else (if t297 > 30 then (some 8) else (if t297 > 14 then (some 4) else (if t297 > 6 then (some 2) else (some 1)))))) = some r := h
  clear h
  replace H := Option.bind_eq_some_iff.mp H
  obtain ⟨t297, A20, H⟩ := H
  replace H : (if t297 > 62 then (some 0) else (if t297 > 30 then (some 8) else (if t297 > 14 then (some 4) else (if t297 > 6 then (some 2) else (some 1))))) = some r := H
  have A2 := Aside0.mk A20
  clear A20
  by_cases c3 : t297 > 62
  · rw [if_pos c3] at H
    have c3b0 : decide (62 < t297) = true := decide_eq_true c3
    clear c3
    obtain rfl := Option.some.inj H
    go_enter Try.func79, Try.ntmps79
    go_wp2_with (first | ((with_reducible refine gate_callee (f := 85) rfl ?_); refine goesL_ (some 5) rfl rfl Try.func85 (by kernel_rfl) rfl #[.int .u64 a0] rfl (by (try simp only [List.map_toArray, List.map_cons, List.map_nil]); first | done | rfl | (simp only [List.length_drop, List.length_take]; rfl)) ?_; (with_reducible refine (bits_Len64.calls a0 t297 _ A2.out).mono ?_); rintro e w4 ⟨rfl, hb⟩; refine ⟨_, rfl, ?_⟩; have n0_ := Aside0.mk (below_step (by repeat (first | (with_reducible first | exact HB.out | apply below_alloc | apply pw_below_drewN | apply below_drew1) | exact HB.out)) hb); clear HB; have HB := n0_; clear n0_; (try clear hb); (try clear hb2); (try clear hk); (try clear hi)))
    go_ret
    exact ⟨by first | rfl | (simp [errW_none, errW_some] <;> rfl) | (simp [*, errW_none, errW_some] <;> rfl), by repeat (first | (with_reducible first | exact HB.out | apply below_alloc | apply pw_below_drewN | apply below_drew1) | exact HB.out)⟩
  · rw [if_neg c3] at H
    have c3b0 : decide (62 < t297) = false := decide_eq_false c3
    clear c3
    by_cases c5 : t297 > 30
    · rw [if_pos c5] at H
      have c5b0 : decide (30 < t297) = true := decide_eq_true c5
      clear c5
      obtain rfl := Option.some.inj H
      go_enter Try.func79, Try.ntmps79
      go_wp2_with (first | ((with_reducible refine gate_callee (f := 85) rfl ?_); refine goesL_ (some 5) rfl rfl Try.func85 (by kernel_rfl) rfl #[.int .u64 a0] rfl (by (try simp only [List.map_toArray, List.map_cons, List.map_nil]); first | done | rfl | (simp only [List.length_drop, List.length_take]; rfl)) ?_; (with_reducible refine (bits_Len64.calls a0 t297 _ A2.out).mono ?_); rintro e w6 ⟨rfl, hb⟩; refine ⟨_, rfl, ?_⟩; have n0_ := Aside0.mk (below_step (by repeat (first | (with_reducible first | exact HB.out | apply below_alloc | apply pw_below_drewN | apply below_drew1) | exact HB.out)) hb); clear HB; have HB := n0_; clear n0_; (try clear hb); (try clear hb2); (try clear hk); (try clear hi)))
      go_ret
      exact ⟨by first | rfl | (simp [errW_none, errW_some] <;> rfl) | (simp [*, errW_none, errW_some] <;> rfl), by repeat (first | (with_reducible first | exact HB.out | apply below_alloc | apply pw_below_drewN | apply below_drew1) | exact HB.out)⟩
    · rw [if_neg c5] at H
      have c5b0 : decide (30 < t297) = false := decide_eq_false c5
      clear c5
      by_cases c7 : t297 > 14
      · rw [if_pos c7] at H
        have c7b0 : decide (14 < t297) = true := decide_eq_true c7
        clear c7
        obtain rfl := Option.some.inj H
        go_enter Try.func79, Try.ntmps79
        go_wp2_with (first | ((with_reducible refine gate_callee (f := 85) rfl ?_); refine goesL_ (some 5) rfl rfl Try.func85 (by kernel_rfl) rfl #[.int .u64 a0] rfl (by (try simp only [List.map_toArray, List.map_cons, List.map_nil]); first | done | rfl | (simp only [List.length_drop, List.length_take]; rfl)) ?_; (with_reducible refine (bits_Len64.calls a0 t297 _ A2.out).mono ?_); rintro e w8 ⟨rfl, hb⟩; refine ⟨_, rfl, ?_⟩; have n0_ := Aside0.mk (below_step (by repeat (first | (with_reducible first | exact HB.out | apply below_alloc | apply pw_below_drewN | apply below_drew1) | exact HB.out)) hb); clear HB; have HB := n0_; clear n0_; (try clear hb); (try clear hb2); (try clear hk); (try clear hi)))
        go_ret
        exact ⟨by first | rfl | (simp [errW_none, errW_some] <;> rfl) | (simp [*, errW_none, errW_some] <;> rfl), by repeat (first | (with_reducible first | exact HB.out | apply below_alloc | apply pw_below_drewN | apply below_drew1) | exact HB.out)⟩
      · rw [if_neg c7] at H
        have c7b0 : decide (14 < t297) = false := decide_eq_false c7
        clear c7
        by_cases c9 : t297 > 6
        · rw [if_pos c9] at H
          have c9b0 : decide (6 < t297) = true := decide_eq_true c9
          clear c9
          obtain rfl := Option.some.inj H
          go_enter Try.func79, Try.ntmps79
          go_wp2_with (first | ((with_reducible refine gate_callee (f := 85) rfl ?_); refine goesL_ (some 5) rfl rfl Try.func85 (by kernel_rfl) rfl #[.int .u64 a0] rfl (by (try simp only [List.map_toArray, List.map_cons, List.map_nil]); first | done | rfl | (simp only [List.length_drop, List.length_take]; rfl)) ?_; (with_reducible refine (bits_Len64.calls a0 t297 _ A2.out).mono ?_); rintro e w10 ⟨rfl, hb⟩; refine ⟨_, rfl, ?_⟩; have n0_ := Aside0.mk (below_step (by repeat (first | (with_reducible first | exact HB.out | apply below_alloc | apply pw_below_drewN | apply below_drew1) | exact HB.out)) hb); clear HB; have HB := n0_; clear n0_; (try clear hb); (try clear hb2); (try clear hk); (try clear hi)))
          go_ret
          exact ⟨by first | rfl | (simp [errW_none, errW_some] <;> rfl) | (simp [*, errW_none, errW_some] <;> rfl), by repeat (first | (with_reducible first | exact HB.out | apply below_alloc | apply pw_below_drewN | apply below_drew1) | exact HB.out)⟩
        · rw [if_neg c9] at H
          have c9b0 : decide (6 < t297) = false := decide_eq_false c9
          clear c9
          obtain rfl := Option.some.inj H
          go_enter Try.func79, Try.ntmps79
          go_wp2_with (first | ((with_reducible refine gate_callee (f := 85) rfl ?_); refine goesL_ (some 5) rfl rfl Try.func85 (by kernel_rfl) rfl #[.int .u64 a0] rfl (by (try simp only [List.map_toArray, List.map_cons, List.map_nil]); first | done | rfl | (simp only [List.length_drop, List.length_take]; rfl)) ?_; (with_reducible refine (bits_Len64.calls a0 t297 _ A2.out).mono ?_); rintro e w11 ⟨rfl, hb⟩; refine ⟨_, rfl, ?_⟩; have n0_ := Aside0.mk (below_step (by repeat (first | (with_reducible first | exact HB.out | apply below_alloc | apply pw_below_drewN | apply below_drew1) | exact HB.out)) hb); clear HB; have HB := n0_; clear n0_; (try clear hb); (try clear hb2); (try clear hk); (try clear hi)))
          go_ret
          exact ⟨by first | rfl | (simp [errW_none, errW_some] <;> rfl) | (simp [*, errW_none, errW_some] <;> rfl), by repeat (first | (with_reducible first | exact HB.out | apply below_alloc | apply pw_below_drewN | apply below_drew1) | exact HB.out)⟩

end Go.Proofs.Ythfkbfahpgdnfaa.PAll
end
