/- Joined texts of the claim RowsRight (part 6): contracts of functions and plain laws. -/
import Derived.Test.YthfkbfahpgdnfaaJRowsRight1
import Derived.WalkSpells
import Derived.Lib.SliceRun
import Derived.Shelf.Abstract
import Derived.Deep.LoopGhost
import Derived.Test.YthfkbfahpgdnfaaJRowsRight2
section
/- Library functions on slices, at this program's element types. -/
namespace Go.Proofs.Ythfkbfahpgdnfaa
open Go.RowKit Go.Proofs.YthfkbfahpgdnfaaW.PrintWords
set_option linter.unusedVariables false
set_option linter.unusedSimpArgs false
theorem gate_load {P : Program} {ops : Array Oper} {rest : List Oper} {o : Oper} {a : Act} {Q : Exit → Act → World → Prop} {W : World} {t : TypeId} {p : Tmp} (_ho : o.op = .load t (.tmp p)) (h : wpList P ops Q (o :: rest) a W) : wpList P ops Q (o :: rest) a W := h
theorem gate_store {P : Program} {ops : Array Oper} {rest : List Oper} {o : Oper} {a : Act} {Q : Exit → Act → World → Prop} {W : World} {t : TypeId} {p : Tmp} {v : Operand} (_ho : o.op = .store t (.tmp p) v) (h : wpList P ops Q (o :: rest) a W) : wpList P ops Q (o :: rest) a W := h
theorem gate_dst {P : Program} {ops : Array Oper} {rest : List Oper} {o : Oper} {a : Act} {Q : Exit → Act → World → Prop} {W : World} {N : Tmp} (_hN : o.dst = some N) (h : wpList P ops Q (o :: rest) a W) : wpList P ops Q (o :: rest) a W := h
theorem CloneLetter (v : Value) (css : List (List Value)) (w : World) (hv : Sl (raw 2) w v css) (hl : css.length * 24 ≤ 140737488355328) :
    Calls Try.prog 50 #[v] w fun e w' => ∃ v : Value, e = .returned v ∧ Own 2 79 w' w.heap.size v css ∧ Below w.heap.size w w' := by
  obtain ⟨A, c, rfl, hc, hr⟩ := hv
  cases A with
  | none =>
    obtain rfl := C_none hr
    have hnil := fun (w : World) => Lib.run_eql_slice_nil (P := Try.prog) w 22 79 none 0 c 0 0 Try.underlying22
    clear hr hl
    go_enter Try.func50, Try.ntmps50
    go_wp2_with (fail)
    go_ret
    exact ⟨_, rfl, Own.nil _ _ _ _, Below.refl _ _⟩
  | some ad =>
    have hnil := fun (w : World) => Lib.run_eql_slice_nil (P := Try.prog) w 22 79 (some ad) css.length c 0 0 Try.underlying22
    have HR := Aside0.mk hr
    have HL := Aside0.mk hl
    clear hr hl
    go_enter Try.func50, Try.ntmps50
    go_wp2_with (first | ((with_reducible refine gate_dst (N := 5) rfl ?_); refine Kd.R_lit (raw 2) _ 79 ?hg (N := 5) ?hd (xs := ([] : List (List Value))) (inner := []) (ok := fun _ => True) (okp := fun _ => True) ?hr ?hp (fun _ hk => hk) trivial (Below.refl _ _) (Nat.le_refl _) (by simp) ?_; (case hd => rfl); (case hg => rfl); (case hr => first | (go_simp; done) | (go_simp; rfl)); (case hp => exact (Reps.none _ _)); intro v5 w5 ho5 hb5 _ _) | (at_builtin; refine Kd.R_append_rows (raw 2) (w0 := w) w.heap.size rfl (.tmp 5) (.tmp 6) 22 79 (.agg #[(.string ⟨#[]⟩), (.int .i64 0)]) 24 rfl Try.underlying22 infoLetter rfl (by decide) (by omega) v5 [] css (some ad) css.length c (fun _ => True) (fun _ => False) rfl rfl ho5 (Kd.C_below HR.out hb5) (fun _ _ h => h) (fun _ h => h.elim) (fun _ _ => trivial) hb5 hb5.size ?aL ?_; (case aL => have := HL.out; simpa using this); intro v7 w7 ho7 hb7 _ _))
    go_ret
    exact ⟨_, rfl, Own.of_R ho7, hb7⟩
theorem CloneRow (v : Value) (css : List (List Value)) (w : World) (hv : Sl (raw 3) w v css) (hl : css.length * 40 ≤ 140737488355328) :
    Calls Try.prog 57 #[v] w fun e w' => ∃ v : Value, e = .returned v ∧ Own 3 64 w' w.heap.size v css ∧ Below w.heap.size w w' := by
  obtain ⟨A, c, rfl, hc, hr⟩ := hv
  cases A with
  | none =>
    obtain rfl := C_none hr
    have hnil := fun (w : World) => Lib.run_eql_slice_nil (P := Try.prog) w 50 64 none 0 c 0 0 Try.underlying50
    clear hr hl
    go_enter Try.func57, Try.ntmps57
    go_wp2_with (fail)
    go_ret
    exact ⟨_, rfl, Own.nil _ _ _ _, Below.refl _ _⟩
  | some ad =>
    have hnil := fun (w : World) => Lib.run_eql_slice_nil (P := Try.prog) w 50 64 (some ad) css.length c 0 0 Try.underlying50
    have HR := Aside0.mk hr
    have HL := Aside0.mk hl
    clear hr hl
    go_enter Try.func57, Try.ntmps57
    go_wp2_with (first | ((with_reducible refine gate_dst (N := 5) rfl ?_); refine Kd.R_lit (raw 3) _ 64 ?hg (N := 5) ?hd (xs := ([] : List (List Value))) (inner := []) (ok := fun _ => True) (okp := fun _ => True) ?hr ?hp (fun _ hk => hk) trivial (Below.refl _ _) (Nat.le_refl _) (by simp) ?_; (case hd => rfl); (case hg => rfl); (case hr => first | (go_simp; done) | (go_simp; rfl)); (case hp => exact (Reps.none _ _)); intro v5 w5 ho5 hb5 _ _) | (at_builtin; refine Kd.R_append_rows (raw 3) (w0 := w) w.heap.size rfl (.tmp 5) (.tmp 6) 50 64 (.agg #[(.string ⟨#[]⟩), (.string ⟨#[]⟩), (.int .u64 0)]) 40 rfl Try.underlying50 infoRow rfl (by decide) (by omega) v5 [] css (some ad) css.length c (fun _ => True) (fun _ => False) rfl rfl ho5 (Kd.C_below HR.out hb5) (fun _ _ h => h) (fun _ h => h.elim) (fun _ _ => trivial) hb5 hb5.size ?aL ?_; (case aL => have := HL.out; simpa using this); intro v7 w7 ho7 hb7 _ _))
    go_ret
    exact ⟨_, rfl, Own.of_R ho7, hb7⟩
theorem IndexFuncLetter {α : Type} [Inhabited α] (d : Kd α) (hd : d.sz = 2) (p : α → Bool) (g : Nat) (lb : Array Value) (eg : ∀ args w, (callFunc g args).run Try.prog w = .ok (.enter g args) w) (v : Value) (l : List α) (w : World) (hv : Sl d w v l) (hp : Pred Try.prog g lb (fun cs => .agg cs.toArray) d w l p) :
    Calls Try.prog 52 #[v, .func (.func g) #[] lb] w fun e w' => e = .returned (.int .i64 (findI p l)) ∧ Below w.heap.size w w' := by
  obtain ⟨A, c, rfl, hc, hr⟩ := hv
  have HP := Aside0.mk hp
  have HR := Aside0.mk hr
  have HM := hr.2.1
  have HD := Aside0.mk hd
  clear hr hp hd
  go_enter Try.func52, Try.ntmps52
  go_wp2
  go_loopg [5, 8] l.length (fun gg _ s8 wr => ∃ kk : Nat, kk ≤ l.length ∧ l.length - kk ≤ gg ∧ s8 = .int .i64 kk ∧ Aside0 (Below w.heap.size w wr) ∧ Aside0 (∀ j, j < kk → p l[j]! = false))
  case atStart => exact ⟨0, Nat.zero_le _, by omega, rfl, ⟨Below.refl _ w⟩, ⟨fun j hj => absurd hj (Nat.not_lt_zero _)⟩⟩
  case round =>
    obtain ⟨kk, hkk, hg, rfl, BW, NO⟩ := hrel
    by_cases hlt : kk < l.length
    · have hltz : (kk : Int) < (l.length : Int) := by omega
      obtain ⟨b, o, rfl, hrow⟩ := C_row (Kd.C_below HR.out BW.out) (by rw [HD.out]; decide) (by omega)
      obtain ⟨cs, hcs, hK, hrg⟩ := hrow kk hlt
      have hcall := HP.out wr l[kk]! cs BW.out (by rw [getElem!_pos l kk hlt]; exact List.getElem_mem hlt) hK
      rw [HD.out] at hcs hrg
      clear HP HR hrow
      generalize hy : l[kk]! = y at hK hcall
      have HY := Aside0.mk hy
      have HG := Aside0.mk hrg; have HCS := Aside0.mk hcs
      clear hy hK hcs hrg
      cases hq : p y with
      | true =>
        rw [hq] at hcall
        go_wp2_with (first | ((with_reducible refine gate_load (t := 79) (p := 14) rfl ?_); refine wpList_load_mid rfl 79 (.tmp 14) rfl b (o + kk * 2) rfl cs _ HG.out Try.underlying79 rfl (by rw [HCS.out]; kernel_rfl) ?_) | (go_at_fn g; refine hcall.mono ?_; rintro e w' ⟨rfl, hb'⟩))
        go_ret
        refine ⟨?_, below_then BW.out hb' BW.out.size⟩
        rw [findI_hit p l kk hlt (by rw [HY.out]; exact hq) NO.out]; rfl
      | false =>
        rw [hq] at hcall
        go_wp2_with (first | ((with_reducible refine gate_load (t := 79) (p := 14) rfl ?_); refine wpList_load_mid rfl 79 (.tmp 14) rfl b (o + kk * 2) rfl cs _ HG.out Try.underlying79 rfl (by rw [HCS.out]; kernel_rfl) ?_) | (go_at_fn g; refine hcall.mono ?_; rintro e w' ⟨rfl, hb'⟩))
        go_roundg (l.length - (kk + 1))
        case measure => omega
        case rel =>
          refine ⟨kk + 1, by omega, by omega, by go_num, ⟨below_then BW.out hb' BW.out.size⟩, ⟨fun j hj => ?_⟩⟩
          by_cases e : j = kk
          · subst e
            rw [HY.out]; exact hq
          · exact NO.out j (by omega)
    · have hltz : ¬ (kk : Int) < (l.length : Int) := by omega
      have he : Aside0 (kk = l.length) := ⟨by omega⟩
      clear HP HR hkk hlt
      go_wp2
      go_ret
      exact ⟨by rw [findI_miss p l (he.out ▸ NO.out)]; rfl, BW.out⟩
theorem IndexFuncRow {α : Type} [Inhabited α] (d : Kd α) (hd : d.sz = 3) (p : α → Bool) (g : Nat) (lb : Array Value) (eg : ∀ args w, (callFunc g args).run Try.prog w = .ok (.enter g args) w) (v : Value) (l : List α) (w : World) (hv : Sl d w v l) (hp : Pred Try.prog g lb (fun cs => .agg cs.toArray) d w l p) :
    Calls Try.prog 61 #[v, .func (.func g) #[] lb] w fun e w' => e = .returned (.int .i64 (findI p l)) ∧ Below w.heap.size w w' := by
  obtain ⟨A, c, rfl, hc, hr⟩ := hv
  have HP := Aside0.mk hp
  have HR := Aside0.mk hr
  have HM := hr.2.1
  have HD := Aside0.mk hd
  clear hr hp hd
  go_enter Try.func61, Try.ntmps61
  go_wp2
  go_loopg [5, 8] l.length (fun gg _ s8 wr => ∃ kk : Nat, kk ≤ l.length ∧ l.length - kk ≤ gg ∧ s8 = .int .i64 kk ∧ Aside0 (Below w.heap.size w wr) ∧ Aside0 (∀ j, j < kk → p l[j]! = false))
  case atStart => exact ⟨0, Nat.zero_le _, by omega, rfl, ⟨Below.refl _ w⟩, ⟨fun j hj => absurd hj (Nat.not_lt_zero _)⟩⟩
  case round =>
    obtain ⟨kk, hkk, hg, rfl, BW, NO⟩ := hrel
    by_cases hlt : kk < l.length
    · have hltz : (kk : Int) < (l.length : Int) := by omega
      obtain ⟨b, o, rfl, hrow⟩ := C_row (Kd.C_below HR.out BW.out) (by rw [HD.out]; decide) (by omega)
      obtain ⟨cs, hcs, hK, hrg⟩ := hrow kk hlt
      have hcall := HP.out wr l[kk]! cs BW.out (by rw [getElem!_pos l kk hlt]; exact List.getElem_mem hlt) hK
      rw [HD.out] at hcs hrg
      clear HP HR hrow
      generalize hy : l[kk]! = y at hK hcall
      have HY := Aside0.mk hy
      have HG := Aside0.mk hrg; have HCS := Aside0.mk hcs
      clear hy hK hcs hrg
      cases hq : p y with
      | true =>
        rw [hq] at hcall
        go_wp2_with (first | ((with_reducible refine gate_load (t := 64) (p := 14) rfl ?_); refine wpList_load_mid rfl 64 (.tmp 14) rfl b (o + kk * 3) rfl cs _ HG.out Try.underlying64 rfl (by rw [HCS.out]; kernel_rfl) ?_) | (go_at_fn g; refine hcall.mono ?_; rintro e w' ⟨rfl, hb'⟩))
        go_ret
        refine ⟨?_, below_then BW.out hb' BW.out.size⟩
        rw [findI_hit p l kk hlt (by rw [HY.out]; exact hq) NO.out]; rfl
      | false =>
        rw [hq] at hcall
        go_wp2_with (first | ((with_reducible refine gate_load (t := 64) (p := 14) rfl ?_); refine wpList_load_mid rfl 64 (.tmp 14) rfl b (o + kk * 3) rfl cs _ HG.out Try.underlying64 rfl (by rw [HCS.out]; kernel_rfl) ?_) | (go_at_fn g; refine hcall.mono ?_; rintro e w' ⟨rfl, hb'⟩))
        go_roundg (l.length - (kk + 1))
        case measure => omega
        case rel =>
          refine ⟨kk + 1, by omega, by omega, by go_num, ⟨below_then BW.out hb' BW.out.size⟩, ⟨fun j hj => ?_⟩⟩
          by_cases e : j = kk
          · subst e
            rw [HY.out]; exact hq
          · exact NO.out j (by omega)
    · have hltz : ¬ (kk : Int) < (l.length : Int) := by omega
      have he : Aside0 (kk = l.length) := ⟨by omega⟩
      clear HP HR hkk hlt
      go_wp2
      go_ret
      exact ⟨by rw [findI_miss p l (he.out ▸ NO.out)]; rfl, BW.out⟩
end Go.Proofs.Ythfkbfahpgdnfaa
end
section
-- Printed by this session's pr.sh (the kit's print.py, several laws in one namespace). Not trusted: Lean checks it.
namespace Go.Proofs.Ythfkbfahpgdnfaa.PAll
open Go.RowKit Go.Proofs.YthfkbfahpgdnfaaW.PrintWords Go.Proofs.YthfkbfahpgdnfaaW.PrintLast Go.Proofs.YthfkbfahpgdnfaaW.PrintMore
attribute [local go_sem] max2_int min2_int max_two min_two max_three min_three max_four min_four   -- for this text's walks alone
set_option linter.unusedVariables false
set_option linter.unusedSimpArgs false

/-! ### rows_named: function 56 -/
def rows_named.f (a0 : ByteArray) : Option (Bool) := if (a0.size : Int) ≥ 1 then (some (decide ((a0.size : Int) ≤ 16))) else (some false)
set_option maxHeartbeats 8000000 in
set_option maxRecDepth 100000 in
theorem rows_named.calls (a0 : ByteArray) (r : Bool) (w : World) (h : rows_named.f a0 = some r) :
    Calls Try.prog 56 #[.string a0] w fun e w' => e = .returned (.bool r) ∧ Drawn0 w w' := by
  have H : (if (a0.size : Int) ≥ 1 then (some (decide ((a0.size : Int) ≤ 16))) else (some false)) = some r := h
  clear h
  by_cases c2 : (a0.size : Int) ≥ 1
  · rw [if_pos c2] at H
    have c2b0 : decide (1 ≤ (a0.size : Int)) = true := decide_eq_true c2
    have c2b1 : decide (1 ≤ a0.size) = true := decide_eq_true (by omega)
    clear c2
    obtain rfl := Option.some.inj H
    go_enter Try.func56, Try.ntmps56
    go_wp2
    go_ret
    exact ⟨by first | rfl | (simp; done) | (simp [*]; done), by repeat (first | exact Drawn0.refl _ | apply Drawn0.step)⟩
  · rw [if_neg c2] at H
    have c2b0 : decide (1 ≤ (a0.size : Int)) = false := decide_eq_false c2
    have c2b1 : decide (1 ≤ a0.size) = false := decide_eq_false (by omega)
    clear c2
    obtain rfl := Option.some.inj H
    go_enter Try.func56, Try.ntmps56
    go_wp2
    go_ret
    exact ⟨by first | rfl | (simp; done) | (simp [*]; done), by repeat (first | exact Drawn0.refl _ | apply Drawn0.step)⟩

end Go.Proofs.Ythfkbfahpgdnfaa.PAll
end
