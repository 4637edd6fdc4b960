/- Joined texts of the claim ShardRight (part 16): contracts of functions and plain laws. -/
import Derived.Deep.LoopGhost
import Derived.Lib.SliceRun
import Derived.Shelf.Abstract
import Derived.Test.YtmcgcdpiceikeaaJShardRight2
import Derived.WalkSpells
section
/- Library functions on slices, at this program's element types. -/
namespace Go.Proofs.Ytmcgcdpiceikeaa
open Go.RowKit Go.Proofs.YtmcgcdpiceikeaaW.PrintWords
set_option linter.unusedVariables false
set_option linter.unusedSimpArgs false
theorem gate_load {P : Program} {ops : Array Oper} {rest : List Oper} {o : Oper} {a : Act} {Q : Exit → Act → World → Prop} {W : World} {t : TypeId} {p : Tmp} (_ho : o.op = .load t (.tmp p)) (h : wpList P ops Q (o :: rest) a W) : wpList P ops Q (o :: rest) a W := h
theorem gate_store {P : Program} {ops : Array Oper} {rest : List Oper} {o : Oper} {a : Act} {Q : Exit → Act → World → Prop} {W : World} {t : TypeId} {p : Tmp} {v : Operand} (_ho : o.op = .store t (.tmp p) v) (h : wpList P ops Q (o :: rest) a W) : wpList P ops Q (o :: rest) a W := h
theorem gate_dst {P : Program} {ops : Array Oper} {rest : List Oper} {o : Oper} {a : Act} {Q : Exit → Act → World → Prop} {W : World} {N : Tmp} (_hN : o.dst = some N) (h : wpList P ops Q (o :: rest) a W) : wpList P ops Q (o :: rest) a W := h
-- not of this seat: clone Letter
theorem CloneRow (v : Value) (css : List (List Value)) (w : World) (hv : Sl (raw 3) w v css) (hl : css.length * 40 ≤ 140737488355328) :
    Calls Try.prog 91 #[v] w fun e w' => ∃ v : Value, e = .returned v ∧ Own 3 50 w' w.heap.size v css ∧ Below w.heap.size w w' := by
  obtain ⟨A, c, rfl, hc, hr⟩ := hv
  cases A with
  | none =>
    obtain rfl := C_none hr
    have hnil := fun (w : World) => Lib.run_eql_slice_nil (P := Try.prog) w 22 50 none 0 c 0 0 Try.underlying22
    clear hr hl
    go_enter Try.func91, Try.ntmps91
    go_wp2_with (fail)
    go_ret
    exact ⟨_, rfl, Own.nil _ _ _ _, Below.refl _ _⟩
  | some ad =>
    have hnil := fun (w : World) => Lib.run_eql_slice_nil (P := Try.prog) w 22 50 (some ad) css.length c 0 0 Try.underlying22
    have HR := Aside0.mk hr
    have HL := Aside0.mk hl
    clear hr hl
    go_enter Try.func91, Try.ntmps91
    go_wp2_with (first | ((with_reducible refine gate_dst (N := 5) rfl ?_); refine Kd.R_lit (raw 3) _ 50 ?hg (N := 5) ?hd (xs := ([] : List (List Value))) (inner := []) (ok := fun _ => True) (okp := fun _ => True) ?hr ?hp (fun _ hk => hk) trivial (Below.refl _ _) (Nat.le_refl _) (by simp) ?_; (case hd => rfl); (case hg => rfl); (case hr => first | (go_simp; done) | (go_simp; rfl)); (case hp => exact (Reps.none _ _)); intro v5 w5 ho5 hb5 _ _) | (at_builtin; refine Kd.R_append_rows (raw 3) (w0 := w) w.heap.size rfl (.tmp 5) (.tmp 6) 22 50 (.agg #[(.string ⟨#[]⟩), (.string ⟨#[]⟩), (.int .u64 0)]) 40 rfl Try.underlying22 infoRow rfl (by decide) (by omega) v5 [] css (some ad) css.length c (fun _ => True) (fun _ => False) rfl rfl ho5 (Kd.C_below HR.out hb5) (fun _ _ h => h) (fun _ h => h.elim) (fun _ _ => trivial) hb5 hb5.size ?aL ?_; (case aL => have := HL.out; simpa using this); intro v7 w7 ho7 hb7 _ _))
    go_ret
    exact ⟨_, rfl, Own.of_R ho7, hb7⟩
theorem ClonePut (v : Value) (css : List (List Value)) (w : World) (hv : Sl (raw 3) w v css) (hl : css.length * 40 ≤ 140737488355328) :
    Calls Try.prog 60 #[v] w fun e w' => ∃ v : Value, e = .returned v ∧ Own 3 54 w' w.heap.size v css ∧ Below w.heap.size w w' := by
  obtain ⟨A, c, rfl, hc, hr⟩ := hv
  cases A with
  | none =>
    obtain rfl := C_none hr
    have hnil := fun (w : World) => Lib.run_eql_slice_nil (P := Try.prog) w 31 54 none 0 c 0 0 Try.underlying31
    clear hr hl
    go_enter Try.func60, Try.ntmps60
    go_wp2_with (fail)
    go_ret
    exact ⟨_, rfl, Own.nil _ _ _ _, Below.refl _ _⟩
  | some ad =>
    have hnil := fun (w : World) => Lib.run_eql_slice_nil (P := Try.prog) w 31 54 (some ad) css.length c 0 0 Try.underlying31
    have HR := Aside0.mk hr
    have HL := Aside0.mk hl
    clear hr hl
    go_enter Try.func60, Try.ntmps60
    go_wp2_with (first | ((with_reducible refine gate_dst (N := 5) rfl ?_); refine Kd.R_lit (raw 3) _ 54 ?hg (N := 5) ?hd (xs := ([] : List (List Value))) (inner := []) (ok := fun _ => True) (okp := fun _ => True) ?hr ?hp (fun _ hk => hk) trivial (Below.refl _ _) (Nat.le_refl _) (by simp) ?_; (case hd => rfl); (case hg => rfl); (case hr => first | (go_simp; done) | (go_simp; rfl)); (case hp => exact (Reps.none _ _)); intro v5 w5 ho5 hb5 _ _) | (at_builtin; refine Kd.R_append_rows (raw 3) (w0 := w) w.heap.size rfl (.tmp 5) (.tmp 6) 31 54 (.agg #[(.string ⟨#[]⟩), (.string ⟨#[]⟩), (.bool false)]) 40 rfl Try.underlying31 infoPut rfl (by decide) (by omega) v5 [] css (some ad) css.length c (fun _ => True) (fun _ => False) rfl rfl ho5 (Kd.C_below HR.out hb5) (fun _ _ h => h) (fun _ h => h.elim) (fun _ _ => trivial) hb5 hb5.size ?aL ?_; (case aL => have := HL.out; simpa using this); intro v7 w7 ho7 hb7 _ _))
    go_ret
    exact ⟨_, rfl, Own.of_R ho7, hb7⟩
-- not of this seat: clone u64
-- not of this seat: clone Mark
theorem CloneHold (v : Value) (css : List (List Value)) (w : World) (hv : Sl (raw 4) w v css) (hl : css.length * 40 ≤ 140737488355328) :
    Calls Try.prog 85 #[v] w fun e w' => ∃ v : Value, e = .returned v ∧ Own 4 75 w' w.heap.size v css ∧ Below w.heap.size w w' := by
  obtain ⟨A, c, rfl, hc, hr⟩ := hv
  cases A with
  | none =>
    obtain rfl := C_none hr
    have hnil := fun (w : World) => Lib.run_eql_slice_nil (P := Try.prog) w 23 75 none 0 c 0 0 Try.underlying23
    clear hr hl
    go_enter Try.func85, Try.ntmps85
    go_wp2_with (fail)
    go_ret
    exact ⟨_, rfl, Own.nil _ _ _ _, Below.refl _ _⟩
  | some ad =>
    have hnil := fun (w : World) => Lib.run_eql_slice_nil (P := Try.prog) w 23 75 (some ad) css.length c 0 0 Try.underlying23
    have HR := Aside0.mk hr
    have HL := Aside0.mk hl
    clear hr hl
    go_enter Try.func85, Try.ntmps85
    go_wp2_with (first | ((with_reducible refine gate_dst (N := 5) rfl ?_); refine Kd.R_lit (raw 4) _ 75 ?hg (N := 5) ?hd (xs := ([] : List (List Value))) (inner := []) (ok := fun _ => True) (okp := fun _ => True) ?hr ?hp (fun _ hk => hk) trivial (Below.refl _ _) (Nat.le_refl _) (by simp) ?_; (case hd => rfl); (case hg => rfl); (case hr => first | (go_simp; done) | (go_simp; rfl)); (case hp => exact (Reps.none _ _)); intro v5 w5 ho5 hb5 _ _) | (at_builtin; refine Kd.R_append_rows (raw 4) (w0 := w) w.heap.size rfl (.tmp 5) (.tmp 6) 23 75 (.agg #[(.string ⟨#[]⟩), (.int .u64 0), (.int .u64 0), (.bool false)]) 40 rfl Try.underlying23 infoHold rfl (by decide) (by omega) v5 [] css (some ad) css.length c (fun _ => True) (fun _ => False) rfl rfl ho5 (Kd.C_below HR.out hb5) (fun _ _ h => h) (fun _ h => h.elim) (fun _ _ => trivial) hb5 hb5.size ?aL ?_; (case aL => have := HL.out; simpa using this); intro v7 w7 ho7 hb7 _ _))
    go_ret
    exact ⟨_, rfl, Own.of_R ho7, hb7⟩
theorem CloneDone (v : Value) (css : List (List Value)) (w : World) (hv : Sl (raw 3) w v css) (hl : css.length * 24 ≤ 140737488355328) :
    Calls Try.prog 65 #[v] w fun e w' => ∃ v : Value, e = .returned v ∧ Own 3 68 w' w.heap.size v css ∧ Below w.heap.size w w' := by
  obtain ⟨A, c, rfl, hc, hr⟩ := hv
  cases A with
  | none =>
    obtain rfl := C_none hr
    have hnil := fun (w : World) => Lib.run_eql_slice_nil (P := Try.prog) w 25 68 none 0 c 0 0 Try.underlying25
    clear hr hl
    go_enter Try.func65, Try.ntmps65
    go_wp2_with (fail)
    go_ret
    exact ⟨_, rfl, Own.nil _ _ _ _, Below.refl _ _⟩
  | some ad =>
    have hnil := fun (w : World) => Lib.run_eql_slice_nil (P := Try.prog) w 25 68 (some ad) css.length c 0 0 Try.underlying25
    have HR := Aside0.mk hr
    have HL := Aside0.mk hl
    clear hr hl
    go_enter Try.func65, Try.ntmps65
    go_wp2_with (first | ((with_reducible refine gate_dst (N := 5) rfl ?_); refine Kd.R_lit (raw 3) _ 68 ?hg (N := 5) ?hd (xs := ([] : List (List Value))) (inner := []) (ok := fun _ => True) (okp := fun _ => True) ?hr ?hp (fun _ hk => hk) trivial (Below.refl _ _) (Nat.le_refl _) (by simp) ?_; (case hd => rfl); (case hg => rfl); (case hr => first | (go_simp; done) | (go_simp; rfl)); (case hp => exact (Reps.none _ _)); intro v5 w5 ho5 hb5 _ _) | (at_builtin; refine Kd.R_append_rows (raw 3) (w0 := w) w.heap.size rfl (.tmp 5) (.tmp 6) 25 68 (.agg #[(.int .u64 0), (.int .u64 0), (.bool false)]) 24 rfl Try.underlying25 infoDone rfl (by decide) (by omega) v5 [] css (some ad) css.length c (fun _ => True) (fun _ => False) rfl rfl ho5 (Kd.C_below HR.out hb5) (fun _ _ h => h) (fun _ h => h.elim) (fun _ _ => trivial) hb5 hb5.size ?aL ?_; (case aL => have := HL.out; simpa using this); intro v7 w7 ho7 hb7 _ _))
    go_ret
    exact ⟨_, rfl, Own.of_R ho7, hb7⟩
theorem CloneOpen (v : Value) (css : List (List Value)) (w : World) (hv : Sl (raw 5) w v css) (hl : css.length * 48 ≤ 140737488355328) :
    Calls Try.prog 56 #[v] w fun e w' => ∃ v : Value, e = .returned v ∧ Own 5 48 w' w.heap.size v css ∧ Below w.heap.size w w' := by
  obtain ⟨A, c, rfl, hc, hr⟩ := hv
  cases A with
  | none =>
    obtain rfl := C_none hr
    have hnil := fun (w : World) => Lib.run_eql_slice_nil (P := Try.prog) w 24 48 none 0 c 0 0 Try.underlying24
    clear hr hl
    go_enter Try.func56, Try.ntmps56
    go_wp2_with (fail)
    go_ret
    exact ⟨_, rfl, Own.nil _ _ _ _, Below.refl _ _⟩
  | some ad =>
    have hnil := fun (w : World) => Lib.run_eql_slice_nil (P := Try.prog) w 24 48 (some ad) css.length c 0 0 Try.underlying24
    have HR := Aside0.mk hr
    have HL := Aside0.mk hl
    clear hr hl
    go_enter Try.func56, Try.ntmps56
    go_wp2_with (first | ((with_reducible refine gate_dst (N := 5) rfl ?_); refine Kd.R_lit (raw 5) _ 48 ?hg (N := 5) ?hd (xs := ([] : List (List Value))) (inner := []) (ok := fun _ => True) (okp := fun _ => True) ?hr ?hp (fun _ hk => hk) trivial (Below.refl _ _) (Nat.le_refl _) (by simp) ?_; (case hd => rfl); (case hg => rfl); (case hr => first | (go_simp; done) | (go_simp; rfl)); (case hp => exact (Reps.none _ _)); intro v5 w5 ho5 hb5 _ _) | (at_builtin; refine Kd.R_append_rows (raw 5) (w0 := w) w.heap.size rfl (.tmp 5) (.tmp 6) 24 48 (.agg #[(.int .u64 0), (.int .u64 0), (.bool false), (.bool false), (.slice none 0 0)]) 48 rfl Try.underlying24 infoOpen rfl (by decide) (by omega) v5 [] css (some ad) css.length c (fun _ => True) (fun _ => False) rfl rfl ho5 (Kd.C_below HR.out hb5) (fun _ _ h => h) (fun _ h => h.elim) (fun _ _ => trivial) hb5 hb5.size ?aL ?_; (case aL => have := HL.out; simpa using this); intro v7 w7 ho7 hb7 _ _))
    go_ret
    exact ⟨_, rfl, Own.of_R ho7, hb7⟩
-- not of this seat: clone Step
-- not of this seat: clone Saw
-- not of this seat: indexfunc Letter
theorem IndexFuncRow {α : Type} [Inhabited α] (d : Kd α) (hd : d.sz = 3) (p : α → Bool) (g : Nat) (lb : Array Value) (eg : ∀ args w, (callFunc g args).run Try.prog w = .ok (.enter g args) w) (v : Value) (l : List α) (w : World) (hv : Sl d w v l) (hp : Pred Try.prog g lb (fun cs => .agg cs.toArray) d w l p) :
    Calls Try.prog 98 #[v, .func (.func g) #[] lb] w fun e w' => e = .returned (.int .i64 (findI p l)) ∧ Below w.heap.size w w' := by
  obtain ⟨A, c, rfl, hc, hr⟩ := hv
  have HP := Aside0.mk hp
  have HR := Aside0.mk hr
  have HM := hr.2.1
  have HD := Aside0.mk hd
  clear hr hp hd
  go_enter Try.func98, Try.ntmps98
  go_wp2
  go_loopg [5, 8] l.length (fun gg _ s8 wr => ∃ kk : Nat, kk ≤ l.length ∧ l.length - kk ≤ gg ∧ s8 = .int .i64 kk ∧ Aside0 (Below w.heap.size w wr) ∧ Aside0 (∀ j, j < kk → p l[j]! = false))
  case atStart => exact ⟨0, Nat.zero_le _, by omega, rfl, ⟨Below.refl _ w⟩, ⟨fun j hj => absurd hj (Nat.not_lt_zero _)⟩⟩
  case round =>
    obtain ⟨kk, hkk, hg, rfl, BW, NO⟩ := hrel
    by_cases hlt : kk < l.length
    · have hltz : (kk : Int) < (l.length : Int) := by omega
      obtain ⟨b, o, rfl, hrow⟩ := C_row (Kd.C_below HR.out BW.out) (by rw [HD.out]; decide) (by omega)
      obtain ⟨cs, hcs, hK, hrg⟩ := hrow kk hlt
      have hcall := HP.out wr l[kk]! cs BW.out (by rw [getElem!_pos l kk hlt]; exact List.getElem_mem hlt) hK
      rw [HD.out] at hcs hrg
      clear HP HR hrow
      generalize hy : l[kk]! = y at hK hcall
      have HY := Aside0.mk hy
      have HG := Aside0.mk hrg; have HCS := Aside0.mk hcs
      clear hy hK hcs hrg
      cases hq : p y with
      | true =>
        rw [hq] at hcall
        go_wp2_with (first | ((with_reducible refine gate_load (t := 50) (p := 14) rfl ?_); refine wpList_load_mid rfl 50 (.tmp 14) rfl b (o + kk * 3) rfl cs _ HG.out Try.underlying50 rfl (by rw [HCS.out]; kernel_rfl) ?_) | (go_at_fn g; refine hcall.mono ?_; rintro e w' ⟨rfl, hb'⟩))
        go_ret
        refine ⟨?_, below_then BW.out hb' BW.out.size⟩
        rw [findI_hit p l kk hlt (by rw [HY.out]; exact hq) NO.out]; rfl
      | false =>
        rw [hq] at hcall
        go_wp2_with (first | ((with_reducible refine gate_load (t := 50) (p := 14) rfl ?_); refine wpList_load_mid rfl 50 (.tmp 14) rfl b (o + kk * 3) rfl cs _ HG.out Try.underlying50 rfl (by rw [HCS.out]; kernel_rfl) ?_) | (go_at_fn g; refine hcall.mono ?_; rintro e w' ⟨rfl, hb'⟩))
        go_roundg (l.length - (kk + 1))
        case measure => omega
        case rel =>
          refine ⟨kk + 1, by omega, by omega, by go_num, ⟨below_then BW.out hb' BW.out.size⟩, ⟨fun j hj => ?_⟩⟩
          by_cases e : j = kk
          · subst e
            rw [HY.out]; exact hq
          · exact NO.out j (by omega)
    · have hltz : ¬ (kk : Int) < (l.length : Int) := by omega
      have he : Aside0 (kk = l.length) := ⟨by omega⟩
      clear HP HR hkk hlt
      go_wp2
      go_ret
      exact ⟨by rw [findI_miss p l (he.out ▸ NO.out)]; rfl, BW.out⟩
theorem IndexFuncPut {α : Type} [Inhabited α] (d : Kd α) (hd : d.sz = 3) (p : α → Bool) (g : Nat) (lb : Array Value) (eg : ∀ args w, (callFunc g args).run Try.prog w = .ok (.enter g args) w) (v : Value) (l : List α) (w : World) (hv : Sl d w v l) (hp : Pred Try.prog g lb (fun cs => .agg cs.toArray) d w l p) :
    Calls Try.prog 78 #[v, .func (.func g) #[] lb] w fun e w' => e = .returned (.int .i64 (findI p l)) ∧ Below w.heap.size w w' := by
  obtain ⟨A, c, rfl, hc, hr⟩ := hv
  have HP := Aside0.mk hp
  have HR := Aside0.mk hr
  have HM := hr.2.1
  have HD := Aside0.mk hd
  clear hr hp hd
  go_enter Try.func78, Try.ntmps78
  go_wp2
  go_loopg [5, 8] l.length (fun gg _ s8 wr => ∃ kk : Nat, kk ≤ l.length ∧ l.length - kk ≤ gg ∧ s8 = .int .i64 kk ∧ Aside0 (Below w.heap.size w wr) ∧ Aside0 (∀ j, j < kk → p l[j]! = false))
  case atStart => exact ⟨0, Nat.zero_le _, by omega, rfl, ⟨Below.refl _ w⟩, ⟨fun j hj => absurd hj (Nat.not_lt_zero _)⟩⟩
  case round =>
    obtain ⟨kk, hkk, hg, rfl, BW, NO⟩ := hrel
    by_cases hlt : kk < l.length
    · have hltz : (kk : Int) < (l.length : Int) := by omega
      obtain ⟨b, o, rfl, hrow⟩ := C_row (Kd.C_below HR.out BW.out) (by rw [HD.out]; decide) (by omega)
      obtain ⟨cs, hcs, hK, hrg⟩ := hrow kk hlt
      have hcall := HP.out wr l[kk]! cs BW.out (by rw [getElem!_pos l kk hlt]; exact List.getElem_mem hlt) hK
      rw [HD.out] at hcs hrg
      clear HP HR hrow
      generalize hy : l[kk]! = y at hK hcall
      have HY := Aside0.mk hy
      have HG := Aside0.mk hrg; have HCS := Aside0.mk hcs
      clear hy hK hcs hrg
      cases hq : p y with
      | true =>
        rw [hq] at hcall
        go_wp2_with (first | ((with_reducible refine gate_load (t := 54) (p := 14) rfl ?_); refine wpList_load_mid rfl 54 (.tmp 14) rfl b (o + kk * 3) rfl cs _ HG.out Try.underlying54 rfl (by rw [HCS.out]; kernel_rfl) ?_) | (go_at_fn g; refine hcall.mono ?_; rintro e w' ⟨rfl, hb'⟩))
        go_ret
        refine ⟨?_, below_then BW.out hb' BW.out.size⟩
        rw [findI_hit p l kk hlt (by rw [HY.out]; exact hq) NO.out]; rfl
      | false =>
        rw [hq] at hcall
        go_wp2_with (first | ((with_reducible refine gate_load (t := 54) (p := 14) rfl ?_); refine wpList_load_mid rfl 54 (.tmp 14) rfl b (o + kk * 3) rfl cs _ HG.out Try.underlying54 rfl (by rw [HCS.out]; kernel_rfl) ?_) | (go_at_fn g; refine hcall.mono ?_; rintro e w' ⟨rfl, hb'⟩))
        go_roundg (l.length - (kk + 1))
        case measure => omega
        case rel =>
          refine ⟨kk + 1, by omega, by omega, by go_num, ⟨below_then BW.out hb' BW.out.size⟩, ⟨fun j hj => ?_⟩⟩
          by_cases e : j = kk
          · subst e
            rw [HY.out]; exact hq
          · exact NO.out j (by omega)
    · have hltz : ¬ (kk : Int) < (l.length : Int) := by omega
      have he : Aside0 (kk = l.length) := ⟨by omega⟩
      clear HP HR hkk hlt
      go_wp2
      go_ret
      exact ⟨by rw [findI_miss p l (he.out ▸ NO.out)]; rfl, BW.out⟩
-- not of this seat: indexfunc u64
-- not of this seat: indexfunc Mark
theorem IndexFuncHold {α : Type} [Inhabited α] (d : Kd α) (hd : d.sz = 4) (p : α → Bool) (g : Nat) (lb : Array Value) (eg : ∀ args w, (callFunc g args).run Try.prog w = .ok (.enter g args) w) (v : Value) (l : List α) (w : World) (hv : Sl d w v l) (hp : Pred Try.prog g lb (fun cs => .agg cs.toArray) d w l p) :
    Calls Try.prog 96 #[v, .func (.func g) #[] lb] w fun e w' => e = .returned (.int .i64 (findI p l)) ∧ Below w.heap.size w w' := by
  obtain ⟨A, c, rfl, hc, hr⟩ := hv
  have HP := Aside0.mk hp
  have HR := Aside0.mk hr
  have HM := hr.2.1
  have HD := Aside0.mk hd
  clear hr hp hd
  go_enter Try.func96, Try.ntmps96
  go_wp2
  go_loopg [5, 8] l.length (fun gg _ s8 wr => ∃ kk : Nat, kk ≤ l.length ∧ l.length - kk ≤ gg ∧ s8 = .int .i64 kk ∧ Aside0 (Below w.heap.size w wr) ∧ Aside0 (∀ j, j < kk → p l[j]! = false))
  case atStart => exact ⟨0, Nat.zero_le _, by omega, rfl, ⟨Below.refl _ w⟩, ⟨fun j hj => absurd hj (Nat.not_lt_zero _)⟩⟩
  case round =>
    obtain ⟨kk, hkk, hg, rfl, BW, NO⟩ := hrel
    by_cases hlt : kk < l.length
    · have hltz : (kk : Int) < (l.length : Int) := by omega
      obtain ⟨b, o, rfl, hrow⟩ := C_row (Kd.C_below HR.out BW.out) (by rw [HD.out]; decide) (by omega)
      obtain ⟨cs, hcs, hK, hrg⟩ := hrow kk hlt
      have hcall := HP.out wr l[kk]! cs BW.out (by rw [getElem!_pos l kk hlt]; exact List.getElem_mem hlt) hK
      rw [HD.out] at hcs hrg
      clear HP HR hrow
      generalize hy : l[kk]! = y at hK hcall
      have HY := Aside0.mk hy
      have HG := Aside0.mk hrg; have HCS := Aside0.mk hcs
      clear hy hK hcs hrg
      cases hq : p y with
      | true =>
        rw [hq] at hcall
        go_wp2_with (first | ((with_reducible refine gate_load (t := 75) (p := 14) rfl ?_); refine wpList_load_mid rfl 75 (.tmp 14) rfl b (o + kk * 4) rfl cs _ HG.out Try.underlying75 rfl (by rw [HCS.out]; kernel_rfl) ?_) | (go_at_fn g; refine hcall.mono ?_; rintro e w' ⟨rfl, hb'⟩))
        go_ret
        refine ⟨?_, below_then BW.out hb' BW.out.size⟩
        rw [findI_hit p l kk hlt (by rw [HY.out]; exact hq) NO.out]; rfl
      | false =>
        rw [hq] at hcall
        go_wp2_with (first | ((with_reducible refine gate_load (t := 75) (p := 14) rfl ?_); refine wpList_load_mid rfl 75 (.tmp 14) rfl b (o + kk * 4) rfl cs _ HG.out Try.underlying75 rfl (by rw [HCS.out]; kernel_rfl) ?_) | (go_at_fn g; refine hcall.mono ?_; rintro e w' ⟨rfl, hb'⟩))
        go_roundg (l.length - (kk + 1))
        case measure => omega
        case rel =>
          refine ⟨kk + 1, by omega, by omega, by go_num, ⟨below_then BW.out hb' BW.out.size⟩, ⟨fun j hj => ?_⟩⟩
          by_cases e : j = kk
          · subst e
            rw [HY.out]; exact hq
          · exact NO.out j (by omega)
    · have hltz : ¬ (kk : Int) < (l.length : Int) := by omega
      have he : Aside0 (kk = l.length) := ⟨by omega⟩
      clear HP HR hkk hlt
      go_wp2
      go_ret
      exact ⟨by rw [findI_miss p l (he.out ▸ NO.out)]; rfl, BW.out⟩
theorem IndexFuncDone {α : Type} [Inhabited α] (d : Kd α) (hd : d.sz = 3) (p : α → Bool) (g : Nat) (lb : Array Value) (eg : ∀ args w, (callFunc g args).run Try.prog w = .ok (.enter g args) w) (v : Value) (l : List α) (w : World) (hv : Sl d w v l) (hp : Pred Try.prog g lb (fun cs => .agg cs.toArray) d w l p) :
    Calls Try.prog 80 #[v, .func (.func g) #[] lb] w fun e w' => e = .returned (.int .i64 (findI p l)) ∧ Below w.heap.size w w' := by
  obtain ⟨A, c, rfl, hc, hr⟩ := hv
  have HP := Aside0.mk hp
  have HR := Aside0.mk hr
  have HM := hr.2.1
  have HD := Aside0.mk hd
  clear hr hp hd
  go_enter Try.func80, Try.ntmps80
  go_wp2
  go_loopg [5, 8] l.length (fun gg _ s8 wr => ∃ kk : Nat, kk ≤ l.length ∧ l.length - kk ≤ gg ∧ s8 = .int .i64 kk ∧ Aside0 (Below w.heap.size w wr) ∧ Aside0 (∀ j, j < kk → p l[j]! = false))
  case atStart => exact ⟨0, Nat.zero_le _, by omega, rfl, ⟨Below.refl _ w⟩, ⟨fun j hj => absurd hj (Nat.not_lt_zero _)⟩⟩
  case round =>
    obtain ⟨kk, hkk, hg, rfl, BW, NO⟩ := hrel
    by_cases hlt : kk < l.length
    · have hltz : (kk : Int) < (l.length : Int) := by omega
      obtain ⟨b, o, rfl, hrow⟩ := C_row (Kd.C_below HR.out BW.out) (by rw [HD.out]; decide) (by omega)
      obtain ⟨cs, hcs, hK, hrg⟩ := hrow kk hlt
      have hcall := HP.out wr l[kk]! cs BW.out (by rw [getElem!_pos l kk hlt]; exact List.getElem_mem hlt) hK
      rw [HD.out] at hcs hrg
      clear HP HR hrow
      generalize hy : l[kk]! = y at hK hcall
      have HY := Aside0.mk hy
      have HG := Aside0.mk hrg; have HCS := Aside0.mk hcs
      clear hy hK hcs hrg
      cases hq : p y with
      | true =>
        rw [hq] at hcall
        go_wp2_with (first | ((with_reducible refine gate_load (t := 68) (p := 14) rfl ?_); refine wpList_load_mid rfl 68 (.tmp 14) rfl b (o + kk * 3) rfl cs _ HG.out Try.underlying68 rfl (by rw [HCS.out]; kernel_rfl) ?_) | (go_at_fn g; refine hcall.mono ?_; rintro e w' ⟨rfl, hb'⟩))
        go_ret
        refine ⟨?_, below_then BW.out hb' BW.out.size⟩
        rw [findI_hit p l kk hlt (by rw [HY.out]; exact hq) NO.out]; rfl
      | false =>
        rw [hq] at hcall
        go_wp2_with (first | ((with_reducible refine gate_load (t := 68) (p := 14) rfl ?_); refine wpList_load_mid rfl 68 (.tmp 14) rfl b (o + kk * 3) rfl cs _ HG.out Try.underlying68 rfl (by rw [HCS.out]; kernel_rfl) ?_) | (go_at_fn g; refine hcall.mono ?_; rintro e w' ⟨rfl, hb'⟩))
        go_roundg (l.length - (kk + 1))
        case measure => omega
        case rel =>
          refine ⟨kk + 1, by omega, by omega, by go_num, ⟨below_then BW.out hb' BW.out.size⟩, ⟨fun j hj => ?_⟩⟩
          by_cases e : j = kk
          · subst e
            rw [HY.out]; exact hq
          · exact NO.out j (by omega)
    · have hltz : ¬ (kk : Int) < (l.length : Int) := by omega
      have he : Aside0 (kk = l.length) := ⟨by omega⟩
      clear HP HR hkk hlt
      go_wp2
      go_ret
      exact ⟨by rw [findI_miss p l (he.out ▸ NO.out)]; rfl, BW.out⟩
theorem IndexFuncOpen {α : Type} [Inhabited α] (d : Kd α) (hd : d.sz = 5) (p : α → Bool) (g : Nat) (lb : Array Value) (eg : ∀ args w, (callFunc g args).run Try.prog w = .ok (.enter g args) w) (v : Value) (l : List α) (w : World) (hv : Sl d w v l) (hp : Pred Try.prog g lb (fun cs => .agg cs.toArray) d w l p) :
    Calls Try.prog 82 #[v, .func (.func g) #[] lb] w fun e w' => e = .returned (.int .i64 (findI p l)) ∧ Below w.heap.size w w' := by
  obtain ⟨A, c, rfl, hc, hr⟩ := hv
  have HP := Aside0.mk hp
  have HR := Aside0.mk hr
  have HM := hr.2.1
  have HD := Aside0.mk hd
  clear hr hp hd
  go_enter Try.func82, Try.ntmps82
  go_wp2
  go_loopg [5, 8] l.length (fun gg _ s8 wr => ∃ kk : Nat, kk ≤ l.length ∧ l.length - kk ≤ gg ∧ s8 = .int .i64 kk ∧ Aside0 (Below w.heap.size w wr) ∧ Aside0 (∀ j, j < kk → p l[j]! = false))
  case atStart => exact ⟨0, Nat.zero_le _, by omega, rfl, ⟨Below.refl _ w⟩, ⟨fun j hj => absurd hj (Nat.not_lt_zero _)⟩⟩
  case round =>
    obtain ⟨kk, hkk, hg, rfl, BW, NO⟩ := hrel
    by_cases hlt : kk < l.length
    · have hltz : (kk : Int) < (l.length : Int) := by omega
      obtain ⟨b, o, rfl, hrow⟩ := C_row (Kd.C_below HR.out BW.out) (by rw [HD.out]; decide) (by omega)
      obtain ⟨cs, hcs, hK, hrg⟩ := hrow kk hlt
      have hcall := HP.out wr l[kk]! cs BW.out (by rw [getElem!_pos l kk hlt]; exact List.getElem_mem hlt) hK
      rw [HD.out] at hcs hrg
      clear HP HR hrow
      generalize hy : l[kk]! = y at hK hcall
      have HY := Aside0.mk hy
      have HG := Aside0.mk hrg; have HCS := Aside0.mk hcs
      clear hy hK hcs hrg
      cases hq : p y with
      | true =>
        rw [hq] at hcall
        go_wp2_with (first | ((with_reducible refine gate_load (t := 48) (p := 14) rfl ?_); refine wpList_load_mid rfl 48 (.tmp 14) rfl b (o + kk * 5) rfl cs _ HG.out Try.underlying48 rfl (by rw [HCS.out]; kernel_rfl) ?_) | (go_at_fn g; refine hcall.mono ?_; rintro e w' ⟨rfl, hb'⟩))
        go_ret
        refine ⟨?_, below_then BW.out hb' BW.out.size⟩
        rw [findI_hit p l kk hlt (by rw [HY.out]; exact hq) NO.out]; rfl
      | false =>
        rw [hq] at hcall
        go_wp2_with (first | ((with_reducible refine gate_load (t := 48) (p := 14) rfl ?_); refine wpList_load_mid rfl 48 (.tmp 14) rfl b (o + kk * 5) rfl cs _ HG.out Try.underlying48 rfl (by rw [HCS.out]; kernel_rfl) ?_) | (go_at_fn g; refine hcall.mono ?_; rintro e w' ⟨rfl, hb'⟩))
        go_roundg (l.length - (kk + 1))
        case measure => omega
        case rel =>
          refine ⟨kk + 1, by omega, by omega, by go_num, ⟨below_then BW.out hb' BW.out.size⟩, ⟨fun j hj => ?_⟩⟩
          by_cases e : j = kk
          · subst e
            rw [HY.out]; exact hq
          · exact NO.out j (by omega)
    · have hltz : ¬ (kk : Int) < (l.length : Int) := by omega
      have he : Aside0 (kk = l.length) := ⟨by omega⟩
      clear HP HR hkk hlt
      go_wp2
      go_ret
      exact ⟨by rw [findI_miss p l (he.out ▸ NO.out)]; rfl, BW.out⟩
-- not of this seat: indexfunc Step
-- not of this seat: containsfunc u64
theorem ContainsFuncPut {α : Type} [Inhabited α] (d : Kd α) (hd : d.sz = 3) (p : α → Bool) (g : Nat) (lb : Array Value) (eg : ∀ args w, (callFunc g args).run Try.prog w = .ok (.enter g args) w) (v : Value) (l : List α) (w : World) (hv : Sl d w v l) (hp : Pred Try.prog g lb (fun cs => .agg cs.toArray) d w l p) :
    Calls Try.prog 43 #[v, .func (.func g) #[] lb] w fun e w' => e = .returned (.bool (l.any p)) ∧ Below w.heap.size w w' := by
  have hidx := IndexFuncPut d hd p g lb eg v l w hv hp
  have hval : l.any p = decide (0 ≤ findI p l) := by
    unfold findI
    by_cases h : l.findIdx p < l.length
    · rw [if_pos h, decide_eq_true (by omega), List.any_eq_true]
      exact List.findIdx_lt_length.1 h
    · rw [if_neg h, decide_eq_false (by omega), List.any_eq_false]
      intro x hx hpx
      exact h (List.findIdx_lt_length.2 ⟨x, hx, hpx⟩)
  have HV := Aside0.mk hval
  generalize findI p l = z at *
  clear hv hp hval
  go_enter Try.func43, Try.ntmps43
  go_wp2_with (go_at_call 78; refine hidx.mono ?_; rintro e w' ⟨rfl, hb'⟩)
  go_ret
  exact ⟨by rw [HV.out]; rfl, hb'⟩
theorem ContainsFuncHold {α : Type} [Inhabited α] (d : Kd α) (hd : d.sz = 4) (p : α → Bool) (g : Nat) (lb : Array Value) (eg : ∀ args w, (callFunc g args).run Try.prog w = .ok (.enter g args) w) (v : Value) (l : List α) (w : World) (hv : Sl d w v l) (hp : Pred Try.prog g lb (fun cs => .agg cs.toArray) d w l p) :
    Calls Try.prog 74 #[v, .func (.func g) #[] lb] w fun e w' => e = .returned (.bool (l.any p)) ∧ Below w.heap.size w w' := by
  have hidx := IndexFuncHold d hd p g lb eg v l w hv hp
  have hval : l.any p = decide (0 ≤ findI p l) := by
    unfold findI
    by_cases h : l.findIdx p < l.length
    · rw [if_pos h, decide_eq_true (by omega), List.any_eq_true]
      exact List.findIdx_lt_length.1 h
    · rw [if_neg h, decide_eq_false (by omega), List.any_eq_false]
      intro x hx hpx
      exact h (List.findIdx_lt_length.2 ⟨x, hx, hpx⟩)
  have HV := Aside0.mk hval
  generalize findI p l = z at *
  clear hv hp hval
  go_enter Try.func74, Try.ntmps74
  go_wp2_with (go_at_call 96; refine hidx.mono ?_; rintro e w' ⟨rfl, hb'⟩)
  go_ret
  exact ⟨by rw [HV.out]; rfl, hb'⟩
-- not of this seat: containsfunc Step
end Go.Proofs.Ytmcgcdpiceikeaa
end
