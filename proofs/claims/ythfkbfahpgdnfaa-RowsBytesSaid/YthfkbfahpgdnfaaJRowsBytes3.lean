/- Joined texts of the claim RowsBytes (part 3): contracts of functions and plain laws. -/
import Derived.Test.YthfkbfahpgdnfaaJRowsBytes1
import Derived.WalkSpells
import Derived.Lib.SliceRun
import Derived.Shelf.Abstract
import Derived.Deep.LoopGhost
import Derived.Test.YthfkbfahpgdnfaaJRowsBytes2
import Derived.WalkLawsBesides
import Derived.Deep.QuietTactic
import Derived.BigQuiet
section
/- Library functions on slices, at this program's element types. -/
namespace Go.Proofs.Ythfkbfahpgdnfaa
open Go.RowKit Go.Proofs.YthfkbfahpgdnfaaW.PrintWords
set_option linter.unusedVariables false
set_option linter.unusedSimpArgs false
theorem gate_load {P : Program} {ops : Array Oper} {rest : List Oper} {o : Oper} {a : Act} {Q : Exit → Act → World → Prop} {W : World} {t : TypeId} {p : Tmp} (_ho : o.op = .load t (.tmp p)) (h : wpList P ops Q (o :: rest) a W) : wpList P ops Q (o :: rest) a W := h
theorem gate_store {P : Program} {ops : Array Oper} {rest : List Oper} {o : Oper} {a : Act} {Q : Exit → Act → World → Prop} {W : World} {t : TypeId} {p : Tmp} {v : Operand} (_ho : o.op = .store t (.tmp p) v) (h : wpList P ops Q (o :: rest) a W) : wpList P ops Q (o :: rest) a W := h
theorem gate_dst {P : Program} {ops : Array Oper} {rest : List Oper} {o : Oper} {a : Act} {Q : Exit → Act → World → Prop} {W : World} {N : Tmp} (_hN : o.dst = some N) (h : wpList P ops Q (o :: rest) a W) : wpList P ops Q (o :: rest) a W := h
theorem CloneLetter (v : Value) (css : List (List Value)) (w : World) (hv : Sl (raw 2) w v css) (hl : css.length * 24 ≤ 140737488355328) :
    Calls Try.prog 50 #[v] w fun e w' => ∃ v : Value, e = .returned v ∧ Own 2 79 w' w.heap.size v css ∧ Below w.heap.size w w' := by
  obtain ⟨A, c, rfl, hc, hr⟩ := hv
  cases A with
  | none =>
    obtain rfl := C_none hr
    have hnil := fun (w : World) => Lib.run_eql_slice_nil (P := Try.prog) w 22 79 none 0 c 0 0 Try.underlying22
    clear hr hl
    go_enter Try.func50, Try.ntmps50
    go_wp2_with (fail)
    go_ret
    exact ⟨_, rfl, Own.nil _ _ _ _, Below.refl _ _⟩
  | some ad =>
    have hnil := fun (w : World) => Lib.run_eql_slice_nil (P := Try.prog) w 22 79 (some ad) css.length c 0 0 Try.underlying22
    have HR := Aside0.mk hr
    have HL := Aside0.mk hl
    clear hr hl
    go_enter Try.func50, Try.ntmps50
    go_wp2_with (first | ((with_reducible refine gate_dst (N := 5) rfl ?_); refine Kd.R_lit (raw 2) _ 79 ?hg (N := 5) ?hd (xs := ([] : List (List Value))) (inner := []) (ok := fun _ => True) (okp := fun _ => True) ?hr ?hp (fun _ hk => hk) trivial (Below.refl _ _) (Nat.le_refl _) (by simp) ?_; (case hd => rfl); (case hg => rfl); (case hr => first | (go_simp; done) | (go_simp; rfl)); (case hp => exact (Reps.none _ _)); intro v5 w5 ho5 hb5 _ _) | (at_builtin; refine Kd.R_append_rows (raw 2) (w0 := w) w.heap.size rfl (.tmp 5) (.tmp 6) 22 79 (.agg #[(.string ⟨#[]⟩), (.int .i64 0)]) 24 rfl Try.underlying22 infoLetter rfl (by decide) (by omega) v5 [] css (some ad) css.length c (fun _ => True) (fun _ => False) rfl rfl ho5 (Kd.C_below HR.out hb5) (fun _ _ h => h) (fun _ h => h.elim) (fun _ _ => trivial) hb5 hb5.size ?aL ?_; (case aL => have := HL.out; simpa using this); intro v7 w7 ho7 hb7 _ _))
    go_ret
    exact ⟨_, rfl, Own.of_R ho7, hb7⟩
theorem CloneRow (v : Value) (css : List (List Value)) (w : World) (hv : Sl (raw 3) w v css) (hl : css.length * 40 ≤ 140737488355328) :
    Calls Try.prog 57 #[v] w fun e w' => ∃ v : Value, e = .returned v ∧ Own 3 64 w' w.heap.size v css ∧ Below w.heap.size w w' := by
  obtain ⟨A, c, rfl, hc, hr⟩ := hv
  cases A with
  | none =>
    obtain rfl := C_none hr
    have hnil := fun (w : World) => Lib.run_eql_slice_nil (P := Try.prog) w 50 64 none 0 c 0 0 Try.underlying50
    clear hr hl
    go_enter Try.func57, Try.ntmps57
    go_wp2_with (fail)
    go_ret
    exact ⟨_, rfl, Own.nil _ _ _ _, Below.refl _ _⟩
  | some ad =>
    have hnil := fun (w : World) => Lib.run_eql_slice_nil (P := Try.prog) w 50 64 (some ad) css.length c 0 0 Try.underlying50
    have HR := Aside0.mk hr
    have HL := Aside0.mk hl
    clear hr hl
    go_enter Try.func57, Try.ntmps57
    go_wp2_with (first | ((with_reducible refine gate_dst (N := 5) rfl ?_); refine Kd.R_lit (raw 3) _ 64 ?hg (N := 5) ?hd (xs := ([] : List (List Value))) (inner := []) (ok := fun _ => True) (okp := fun _ => True) ?hr ?hp (fun _ hk => hk) trivial (Below.refl _ _) (Nat.le_refl _) (by simp) ?_; (case hd => rfl); (case hg => rfl); (case hr => first | (go_simp; done) | (go_simp; rfl)); (case hp => exact (Reps.none _ _)); intro v5 w5 ho5 hb5 _ _) | (at_builtin; refine Kd.R_append_rows (raw 3) (w0 := w) w.heap.size rfl (.tmp 5) (.tmp 6) 50 64 (.agg #[(.string ⟨#[]⟩), (.string ⟨#[]⟩), (.int .u64 0)]) 40 rfl Try.underlying50 infoRow rfl (by decide) (by omega) v5 [] css (some ad) css.length c (fun _ => True) (fun _ => False) rfl rfl ho5 (Kd.C_below HR.out hb5) (fun _ _ h => h) (fun _ h => h.elim) (fun _ _ => trivial) hb5 hb5.size ?aL ?_; (case aL => have := HL.out; simpa using this); intro v7 w7 ho7 hb7 _ _))
    go_ret
    exact ⟨_, rfl, Own.of_R ho7, hb7⟩
theorem IndexFuncLetter {α : Type} [Inhabited α] (d : Kd α) (hd : d.sz = 2) (p : α → Bool) (g : Nat) (lb : Array Value) (eg : ∀ args w, (callFunc g args).run Try.prog w = .ok (.enter g args) w) (v : Value) (l : List α) (w : World) (hv : Sl d w v l) (hp : Pred Try.prog g lb (fun cs => .agg cs.toArray) d w l p) :
    Calls Try.prog 52 #[v, .func (.func g) #[] lb] w fun e w' => e = .returned (.int .i64 (findI p l)) ∧ Below w.heap.size w w' := by
  obtain ⟨A, c, rfl, hc, hr⟩ := hv
  have HP := Aside0.mk hp
  have HR := Aside0.mk hr
  have HM := hr.2.1
  have HD := Aside0.mk hd
  clear hr hp hd
  go_enter Try.func52, Try.ntmps52
  go_wp2
  go_loopg [5, 8] l.length (fun gg _ s8 wr => ∃ kk : Nat, kk ≤ l.length ∧ l.length - kk ≤ gg ∧ s8 = .int .i64 kk ∧ Aside0 (Below w.heap.size w wr) ∧ Aside0 (∀ j, j < kk → p l[j]! = false))
  case atStart => exact ⟨0, Nat.zero_le _, by omega, rfl, ⟨Below.refl _ w⟩, ⟨fun j hj => absurd hj (Nat.not_lt_zero _)⟩⟩
  case round =>
    obtain ⟨kk, hkk, hg, rfl, BW, NO⟩ := hrel
    by_cases hlt : kk < l.length
    · have hltz : (kk : Int) < (l.length : Int) := by omega
      obtain ⟨b, o, rfl, hrow⟩ := C_row (Kd.C_below HR.out BW.out) (by rw [HD.out]; decide) (by omega)
      obtain ⟨cs, hcs, hK, hrg⟩ := hrow kk hlt
      have hcall := HP.out wr l[kk]! cs BW.out (by rw [getElem!_pos l kk hlt]; exact List.getElem_mem hlt) hK
      rw [HD.out] at hcs hrg
      clear HP HR hrow
      generalize hy : l[kk]! = y at hK hcall
      have HY := Aside0.mk hy
      have HG := Aside0.mk hrg; have HCS := Aside0.mk hcs
      clear hy hK hcs hrg
      cases hq : p y with
      | true =>
        rw [hq] at hcall
        go_wp2_with (first | ((with_reducible refine gate_load (t := 79) (p := 14) rfl ?_); refine wpList_load_mid rfl 79 (.tmp 14) rfl b (o + kk * 2) rfl cs _ HG.out Try.underlying79 rfl (by rw [HCS.out]; kernel_rfl) ?_) | (go_at_fn g; refine hcall.mono ?_; rintro e w' ⟨rfl, hb'⟩))
        go_ret
        refine ⟨?_, below_then BW.out hb' BW.out.size⟩
        rw [findI_hit p l kk hlt (by rw [HY.out]; exact hq) NO.out]; rfl
      | false =>
        rw [hq] at hcall
        go_wp2_with (first | ((with_reducible refine gate_load (t := 79) (p := 14) rfl ?_); refine wpList_load_mid rfl 79 (.tmp 14) rfl b (o + kk * 2) rfl cs _ HG.out Try.underlying79 rfl (by rw [HCS.out]; kernel_rfl) ?_) | (go_at_fn g; refine hcall.mono ?_; rintro e w' ⟨rfl, hb'⟩))
        go_roundg (l.length - (kk + 1))
        case measure => omega
        case rel =>
          refine ⟨kk + 1, by omega, by omega, by go_num, ⟨below_then BW.out hb' BW.out.size⟩, ⟨fun j hj => ?_⟩⟩
          by_cases e : j = kk
          · subst e
            rw [HY.out]; exact hq
          · exact NO.out j (by omega)
    · have hltz : ¬ (kk : Int) < (l.length : Int) := by omega
      have he : Aside0 (kk = l.length) := ⟨by omega⟩
      clear HP HR hkk hlt
      go_wp2
      go_ret
      exact ⟨by rw [findI_miss p l (he.out ▸ NO.out)]; rfl, BW.out⟩
theorem IndexFuncRow {α : Type} [Inhabited α] (d : Kd α) (hd : d.sz = 3) (p : α → Bool) (g : Nat) (lb : Array Value) (eg : ∀ args w, (callFunc g args).run Try.prog w = .ok (.enter g args) w) (v : Value) (l : List α) (w : World) (hv : Sl d w v l) (hp : Pred Try.prog g lb (fun cs => .agg cs.toArray) d w l p) :
    Calls Try.prog 61 #[v, .func (.func g) #[] lb] w fun e w' => e = .returned (.int .i64 (findI p l)) ∧ Below w.heap.size w w' := by
  obtain ⟨A, c, rfl, hc, hr⟩ := hv
  have HP := Aside0.mk hp
  have HR := Aside0.mk hr
  have HM := hr.2.1
  have HD := Aside0.mk hd
  clear hr hp hd
  go_enter Try.func61, Try.ntmps61
  go_wp2
  go_loopg [5, 8] l.length (fun gg _ s8 wr => ∃ kk : Nat, kk ≤ l.length ∧ l.length - kk ≤ gg ∧ s8 = .int .i64 kk ∧ Aside0 (Below w.heap.size w wr) ∧ Aside0 (∀ j, j < kk → p l[j]! = false))
  case atStart => exact ⟨0, Nat.zero_le _, by omega, rfl, ⟨Below.refl _ w⟩, ⟨fun j hj => absurd hj (Nat.not_lt_zero _)⟩⟩
  case round =>
    obtain ⟨kk, hkk, hg, rfl, BW, NO⟩ := hrel
    by_cases hlt : kk < l.length
    · have hltz : (kk : Int) < (l.length : Int) := by omega
      obtain ⟨b, o, rfl, hrow⟩ := C_row (Kd.C_below HR.out BW.out) (by rw [HD.out]; decide) (by omega)
      obtain ⟨cs, hcs, hK, hrg⟩ := hrow kk hlt
      have hcall := HP.out wr l[kk]! cs BW.out (by rw [getElem!_pos l kk hlt]; exact List.getElem_mem hlt) hK
      rw [HD.out] at hcs hrg
      clear HP HR hrow
      generalize hy : l[kk]! = y at hK hcall
      have HY := Aside0.mk hy
      have HG := Aside0.mk hrg; have HCS := Aside0.mk hcs
      clear hy hK hcs hrg
      cases hq : p y with
      | true =>
        rw [hq] at hcall
        go_wp2_with (first | ((with_reducible refine gate_load (t := 64) (p := 14) rfl ?_); refine wpList_load_mid rfl 64 (.tmp 14) rfl b (o + kk * 3) rfl cs _ HG.out Try.underlying64 rfl (by rw [HCS.out]; kernel_rfl) ?_) | (go_at_fn g; refine hcall.mono ?_; rintro e w' ⟨rfl, hb'⟩))
        go_ret
        refine ⟨?_, below_then BW.out hb' BW.out.size⟩
        rw [findI_hit p l kk hlt (by rw [HY.out]; exact hq) NO.out]; rfl
      | false =>
        rw [hq] at hcall
        go_wp2_with (first | ((with_reducible refine gate_load (t := 64) (p := 14) rfl ?_); refine wpList_load_mid rfl 64 (.tmp 14) rfl b (o + kk * 3) rfl cs _ HG.out Try.underlying64 rfl (by rw [HCS.out]; kernel_rfl) ?_) | (go_at_fn g; refine hcall.mono ?_; rintro e w' ⟨rfl, hb'⟩))
        go_roundg (l.length - (kk + 1))
        case measure => omega
        case rel =>
          refine ⟨kk + 1, by omega, by omega, by go_num, ⟨below_then BW.out hb' BW.out.size⟩, ⟨fun j hj => ?_⟩⟩
          by_cases e : j = kk
          · subst e
            rw [HY.out]; exact hq
          · exact NO.out j (by omega)
    · have hltz : ¬ (kk : Int) < (l.length : Int) := by omega
      have he : Aside0 (kk = l.length) := ⟨by omega⟩
      clear HP HR hkk hlt
      go_wp2
      go_ret
      exact ⟨by rw [findI_miss p l (he.out ▸ NO.out)]; rfl, BW.out⟩
end Go.Proofs.Ythfkbfahpgdnfaa
end
section
-- Printed by this session's pr.sh (the kit's print.py, several laws in one namespace). Not trusted: Lean checks it.
namespace Go.Proofs.Ythfkbfahpgdnfaa.PAll
open Go.RowKit Go.Proofs.YthfkbfahpgdnfaaW.PrintWords Go.Proofs.YthfkbfahpgdnfaaW.PrintLast Go.Proofs.YthfkbfahpgdnfaaW.PrintMore
attribute [local go_sem] max2_int min2_int max_two min_two max_three min_three max_four min_four   -- for this text's walks alone
set_option linter.unusedVariables false
set_option linter.unusedSimpArgs false

/-! ### rows_named: function 56 -/
def rows_named.f (a0 : ByteArray) : Option (Bool) := if (a0.size : Int) ≥ 1 then (some (decide ((a0.size : Int) ≤ 16))) else (some false)
set_option maxHeartbeats 8000000 in
set_option maxRecDepth 100000 in
theorem rows_named.calls (a0 : ByteArray) (r : Bool) (w : World) (h : rows_named.f a0 = some r) :
    Calls Try.prog 56 #[.string a0] w fun e w' => e = .returned (.bool r) ∧ Drawn0 w w' := by
  have H : (if (a0.size : Int) ≥ 1 then (some (decide ((a0.size : Int) ≤ 16))) else (some false)) = some r := h
  clear h
  by_cases c2 : (a0.size : Int) ≥ 1
  · rw [if_pos c2] at H
    have c2b0 : decide (1 ≤ (a0.size : Int)) = true := decide_eq_true c2
    have c2b1 : decide (1 ≤ a0.size) = true := decide_eq_true (by omega)
    clear c2
    obtain rfl := Option.some.inj H
    go_enter Try.func56, Try.ntmps56
    go_wp2
    go_ret
    exact ⟨by first | rfl | (simp; done) | (simp [*]; done), by repeat (first | exact Drawn0.refl _ | apply Drawn0.step)⟩
  · rw [if_neg c2] at H
    have c2b0 : decide (1 ≤ (a0.size : Int)) = false := decide_eq_false c2
    have c2b1 : decide (1 ≤ a0.size) = false := decide_eq_false (by omega)
    clear c2
    obtain rfl := Option.some.inj H
    go_enter Try.func56, Try.ntmps56
    go_wp2
    go_ret
    exact ⟨by first | rfl | (simp; done) | (simp [*]; done), by repeat (first | exact Drawn0.refl _ | apply Drawn0.step)⟩

end Go.Proofs.Ythfkbfahpgdnfaa.PAll
end
section
/- rows.Right, as the printed texts call it. -/
namespace Go.Proofs.Ythfkbfahpgdnfaa.PAll
open Go.RowKit Go.Proofs.YthfkbfahpgdnfaaW.PrintWords Go.Proofs.Ythfkbfahpgdnfaa
set_option linter.unusedVariables false
/-- Is the j-th row as it must be? -/
def okR (l : List S64) (j : Nat) : Bool := (decide (1 ≤ (l[j]!).f0.size) && decide ((l[j]!).f0.size ≤ 16)) && decide ((l[j]!).f1.size ≤ 32) && decide ((l[j]!).f2 ≤ 4611686018427387903) && (decide (j = 0) || Op.bytesLess (l[j - 1]!).f0.toList (l[j]!).f0.toList)
def rightR (l : List S64) : Bool := (List.range l.length).all (okR l) && decide (l.length ≤ 32)
theorem ok_snoc (l : List S64) (k : Nat) (h : okR l k = true) (no : ∀ j, j < k → okR l j = true) : ∀ j, j < k + 1 → okR l j = true := fun j hj => by
  by_cases e : j = k
  · rw [e]; exact h
  · exact no j (by omega)
theorem ret_bool {a b : Bool} (h : a = b) : Ending.returned (.bool a) = .returned (.bool b) := by rw [h]
theorem rightR_no (l : List S64) (j : Nat) (hj : j < l.length) (h : okR l j = false) : rightR l = false := by
  unfold rightR
  rw [Bool.and_eq_false_iff]
  left
  rw [List.all_eq_false]
  exact ⟨j, List.mem_range.2 hj, by simp [h]⟩
theorem rightR_yes (l : List S64) (h : ∀ j, j < l.length → okR l j = true) : rightR l = decide (l.length ≤ 32) := by
  unfold rightR
  rw [List.all_eq_true.2 (fun j hj => h j (List.mem_range.1 hj)), Bool.true_and]
def rows_Right.f (l0 : List S64) : Option Bool := some (rightR l0)
set_option maxHeartbeats 1000000 in
set_option maxRecDepth 100000 in
theorem named_calls (s : ByteArray) (w : World) : Calls Try.prog 56 #[.string s] w fun e w' => e = .returned (.bool (decide (1 ≤ s.size) && decide (s.size ≤ 16))) ∧ w' = w := by
  by_cases h1 : 1 ≤ s.size
  · have d1 : decide ((1 : Int) ≤ (s.size : Int)) = true := decide_eq_true (by omega)
    by_cases h2 : s.size ≤ 16
    · have d2 : decide ((s.size : Int) ≤ 16) = true := decide_eq_true (by omega)
      go_enter Try.func56, Try.ntmps56
      go_wp2
      go_ret
      exact ⟨by rw [decide_eq_true h1, decide_eq_true h2]; rfl, rfl⟩
    · have d2 : decide ((s.size : Int) ≤ 16) = false := decide_eq_false (by omega)
      go_enter Try.func56, Try.ntmps56
      go_wp2
      go_ret
      exact ⟨by rw [decide_eq_true h1, decide_eq_false h2]; rfl, rfl⟩
  · have d1 : decide ((1 : Int) ≤ (s.size : Int)) = false := decide_eq_false (by omega)
    go_enter Try.func56, Try.ntmps56
    go_wp2
    go_ret
    exact ⟨by rw [decide_eq_false h1]; rfl, rfl⟩
set_option maxHeartbeats 2000000 in
set_option maxRecDepth 100000 in
theorem rows_Right.calls (A0 : Option Addr) (c0 : Nat) (l0 : List S64) (r : Bool) (w : World) (hr0 : Kd.C k64 w A0 l0.length l0) (hc0 : l0.length ≤ c0) (h : rows_Right.f l0 = some r) :
    Calls Try.prog 40 #[.slice A0 l0.length c0] w fun e w' => e = .returned (.bool r) ∧ Below w.heap.size w w' := by
  obtain rfl := Option.some.inj h
  have HR := Aside0.mk hr0
  have HM := hr0.2.1
  clear h hr0
  go_enter Try.func40, Try.ntmps40
  go_wp2
  go_loopg [7] l0.length (fun gg s7 wr => ∃ kk : Nat, kk ≤ l0.length ∧ l0.length - kk ≤ gg ∧ s7 = .int .i64 kk ∧ Aside0 (Below w.heap.size w wr) ∧ Aside0 (∀ j, j < kk → okR l0 j = true))
  case atStart => exact ⟨0, Nat.zero_le _, by omega, rfl, ⟨Below.refl _ w⟩, ⟨fun j hj => absurd hj (Nat.not_lt_zero _)⟩⟩
  case round =>
    obtain ⟨kk, hkk, hg, rfl, BW, NO⟩ := hrel
    by_cases hlt : kk < l0.length
    · have hltz : (kk : Int) < (l0.length : Int) := by omega
      obtain ⟨b, o, rfl, hrow⟩ := C_row (Kd.C_below HR.out BW.out) (by decide) (by omega)
      obtain ⟨cs, hcs, hK, hrg⟩ := hrow kk hlt
      obtain rfl := flat64.openK _ _ _ hK
      have hc0_ : wr.cell? ⟨b, o + kk * 3, none⟩ = some (.string (l0[kk]!).f0) := hrg 0 _ rfl
      have hc1_ : wr.cell? ⟨b, o + kk * 3 + 1, none⟩ = some (.string (l0[kk]!).f1) := hrg 1 _ rfl
      have hc2_ : wr.cell? ⟨b, o + kk * 3 + 2, none⟩ = some (.int .u64 (l0[kk]!).f2) := hrg 2 _ rfl
      have hp : 0 < kk → wr.cell? ⟨b, o + (kk - 1) * 3, none⟩ = some (.string (l0[kk - 1]!).f0) := fun h0 => by
        obtain ⟨cs', _, hK', hrg'⟩ := hrow (kk - 1) (by omega)
        obtain rfl := flat64.openK _ _ _ hK'
        exact hrg' 0 _ rfl
      have HOK := Aside0.mk (show okR l0 kk = ((decide (1 ≤ (l0[kk]!).f0.size) && decide ((l0[kk]!).f0.size ≤ 16)) && decide ((l0[kk]!).f1.size ≤ 32) && decide ((l0[kk]!).f2 ≤ 4611686018427387903) && (decide (kk = 0) || Op.bytesLess (l0[kk - 1]!).f0.toList (l0[kk]!).f0.toList)) from rfl)
      have HP := Aside0.mk hp
      clear hp hrow hrg hK hcs HR
      obtain ⟨x, hx⟩ : ∃ x, x = l0[kk]! := ⟨_, rfl⟩
      obtain ⟨y, hy⟩ : ∃ y, y = l0[kk - 1]! := ⟨_, rfl⟩
      rw [← hx] at hc0_ hc1_ hc2_ HOK
      rw [← hy] at HP HOK
      clear hx hy
      have hbl := World.block_lt_of_cell? wr _ hc0_
      have HOK2 := Aside0.mk (rightR_no l0 kk hlt)
      have HNM := Aside0.mk (fun W => named_calls x.f0 W)
      obtain ⟨nb, hnb⟩ : ∃ nb, nb = (decide (1 ≤ x.f0.size) && decide (x.f0.size ≤ 16)) := ⟨_, rfl⟩
      rw [← hnb] at HOK HNM
      clear hnb
      cases nb with
      | false =>
        have hno : Aside0 (okR l0 kk = false) := ⟨by rw [HOK.out]; rfl⟩
        go_wp2
        go_quiet ((go_at_call 56; exact Calls.quiet_of_same (HNM.out _)))
        go_wp2
        go_ret
        exact ⟨by rw [HOK2.out hno.out]; rfl, (BW.out.alloc BW.out.size _).trans (by first | exact Below.refl _ _ | exact (Below.refl _ _).drew | exact (pw_below_drewN (Below.refl _ _) _))⟩
      | true =>
        by_cases c1 : (32 : Int) < x.f1.size
        · have hno : Aside0 (okR l0 kk = false) := ⟨by rw [HOK.out, show decide (x.f1.size ≤ 32) = false from decide_eq_false (by omega)]; rfl⟩
          have c1b : decide ((32 : Int) < x.f1.size) = true := decide_eq_true c1
          clear c1
          go_wp2
          go_quiet ((go_at_call 56; exact Calls.quiet_of_same (HNM.out _)))
          go_wp2
          go_ret
          exact ⟨by rw [HOK2.out hno.out]; rfl, (BW.out.alloc BW.out.size _).trans (by first | exact Below.refl _ _ | exact (Below.refl _ _).drew | exact (pw_below_drewN (Below.refl _ _) _))⟩
        · have c1b : decide ((32 : Int) < x.f1.size) = false := decide_eq_false c1
          have c1c := Aside0.mk (show decide (x.f1.size ≤ 32) = true from decide_eq_true (by omega))
          clear c1
          by_cases c2 : 4611686018427387903 < x.f2
          · have hno : Aside0 (okR l0 kk = false) := ⟨by rw [HOK.out, c1c.out, show decide (x.f2 ≤ 4611686018427387903) = false from decide_eq_false (by omega)]; rfl⟩
            have c2b : decide (4611686018427387903 < x.f2) = true := decide_eq_true c2
            clear c2
            go_wp2
            go_quiet ((go_at_call 56; exact Calls.quiet_of_same (HNM.out _)))
            go_wp2
            go_ret
            exact ⟨by rw [HOK2.out hno.out]; rfl, (BW.out.alloc BW.out.size _).trans (by first | exact Below.refl _ _ | exact (Below.refl _ _).drew | exact (pw_below_drewN (Below.refl _ _) _))⟩
          · have c2b : decide (4611686018427387903 < x.f2) = false := decide_eq_false c2
            have c2c := Aside0.mk (show decide (x.f2 ≤ 4611686018427387903) = true from decide_eq_true (by omega))
            clear c2
            by_cases c3 : kk = 0
            · have hyes : Aside0 (okR l0 kk = true) := ⟨by rw [HOK.out, c1c.out, c2c.out, c3]; rfl⟩
              have c3b : decide (0 < kk) = false := decide_eq_false (by omega)
              clear c3
              go_wp2
              go_quiet ((go_at_call 56; exact Calls.quiet_of_same (HNM.out _)))
              go_wp2
              go_roundg (l0.length - (kk + 1))
              case measure => omega
              case rel => exact ⟨kk + 1, by omega, by omega, by go_num, ⟨(BW.out.alloc BW.out.size _).trans (by first | exact Below.refl _ _ | exact (Below.refl _ _).drew | exact (pw_below_drewN (Below.refl _ _) _))⟩, ⟨ok_snoc l0 kk hyes.out NO.out⟩⟩
            · have c3b : decide (0 < kk) = true := decide_eq_true (by omega)
              have hc3_ := HP.out (by omega)
              have hz1 : IntKind.i64.wrap ((kk : Int) - 1) = (kk : Int) - 1 := by rw [IntKind.wrap_i64]; omega
              have hz2 : (0 : Int) ≤ (kk : Int) - 1 := by omega
              have hz3 : (kk : Int) - 1 < (l0.length : Int) := by omega
              have hz4 : ((kk : Int) - 1).toNat = kk - 1 := by omega
              have c3c := Aside0.mk (show decide (kk = 0) = false from decide_eq_false c3)
              clear c3 HP
              cases c4 : Op.bytesLess y.f0.toList x.f0.toList with
              | true =>
                have hyes : Aside0 (okR l0 kk = true) := ⟨by rw [HOK.out, c1c.out, c2c.out, c3c.out, c4]; rfl⟩
                go_wp2
                go_quiet ((go_at_call 56; exact Calls.quiet_of_same (HNM.out _)))
                go_wp2
                go_roundg (l0.length - (kk + 1))
                case measure => omega
                case rel => exact ⟨kk + 1, by omega, by omega, by go_num, ⟨(BW.out.alloc BW.out.size _).trans (by first | exact Below.refl _ _ | exact (Below.refl _ _).drew | exact (pw_below_drewN (Below.refl _ _) _))⟩, ⟨ok_snoc l0 kk hyes.out NO.out⟩⟩
              | false =>
                have hno : Aside0 (okR l0 kk = false) := ⟨by rw [HOK.out, c1c.out, c2c.out, c3c.out, c4]; rfl⟩
                go_wp2
                go_quiet ((go_at_call 56; exact Calls.quiet_of_same (HNM.out _)))
                go_wp2
                go_ret
                exact ⟨by rw [HOK2.out hno.out]; rfl, (BW.out.alloc BW.out.size _).trans (by first | exact Below.refl _ _ | exact (Below.refl _ _).drew | exact (pw_below_drewN (Below.refl _ _) _))⟩
    · have hltz : ¬ (kk : Int) < (l0.length : Int) := by omega
      have he : Aside0 (kk = l0.length) := ⟨by omega⟩
      have hy := Aside0.mk (rightR_yes l0 (he.out ▸ NO.out))
      clear hkk hlt HR
      go_wp2
      go_ret
      exact ⟨ret_bool (by rw [hy.out]; exact decide_eq_decide.2 (by omega)), BW.out⟩
end Go.Proofs.Ythfkbfahpgdnfaa.PAll
end
