/- Joined texts of the claim DriveCommits (part 28): contracts of functions and plain laws. -/
import Derived.Deep.LoopGhost
import Derived.Lib.SliceRun
import Derived.Shelf.Abstract
import Derived.Test.YtkennobdoldlkaaJDriveCommits3
import Derived.WalkSpells
section
/- Library functions on slices, at this program's element types. -/
namespace Go.Proofs.Ytkennobdoldlkaa
open Go.RowKit Go.Proofs.YtkennobdoldlkaaW.PrintWords
set_option linter.unusedVariables false
set_option linter.unusedSimpArgs false
theorem gate_load {P : Program} {ops : Array Oper} {rest : List Oper} {o : Oper} {a : Act} {Q : Exit → Act → World → Prop} {W : World} {t : TypeId} {p : Tmp} (_ho : o.op = .load t (.tmp p)) (h : wpList P ops Q (o :: rest) a W) : wpList P ops Q (o :: rest) a W := h
theorem gate_dst {P : Program} {ops : Array Oper} {rest : List Oper} {o : Oper} {a : Act} {Q : Exit → Act → World → Prop} {W : World} {N : Tmp} (_hN : o.dst = some N) (h : wpList P ops Q (o :: rest) a W) : wpList P ops Q (o :: rest) a W := h
-- not of this seat: clone Letter
-- not of this seat: clone Row
-- not of this seat: clone Put
-- not of this seat: clone u64
-- not of this seat: clone Mark
-- not of this seat: clone Hold
-- not of this seat: clone Done
-- not of this seat: clone Open
theorem CloneStep (v : Value) (css : List (List Value)) (w : World) (hv : Sl (raw 5) w v css) (hl : css.length * 48 ≤ 140737488355328) :
    Calls Try.prog 35 #[v] w fun e w' => ∃ v : Value, e = .returned v ∧ Own 5 53 w' w.heap.size v css ∧ Below w.heap.size w w' := by
  obtain ⟨A, c, rfl, hc, hr⟩ := hv
  cases A with
  | none =>
    obtain rfl := C_none hr
    have hnil := fun (w : World) => Lib.run_eql_slice_nil (P := Try.prog) w 25 53 none 0 c 0 0 Try.underlying25
    clear hr hl
    go_enter Try.func35, Try.ntmps35
    go_wp2_with (fail)
    go_ret
    exact ⟨_, rfl, Own.nil _ _ _ _, Below.refl _ _⟩
  | some ad =>
    have hnil := fun (w : World) => Lib.run_eql_slice_nil (P := Try.prog) w 25 53 (some ad) css.length c 0 0 Try.underlying25
    have HR := Aside0.mk hr
    have HL := Aside0.mk hl
    clear hr hl
    go_enter Try.func35, Try.ntmps35
    go_wp2_with (first | ((with_reducible refine gate_dst (N := 5) rfl ?_); refine Kd.R_lit (raw 5) _ 53 ?hg (N := 5) ?hd (xs := ([] : List (List Value))) (inner := []) (ok := fun _ => True) (okp := fun _ => True) ?hr ?hp (fun _ hk => hk) trivial (Below.refl _ _) (Nat.le_refl _) (by simp) ?_; (case hd => rfl); (case hg => rfl); (case hr => first | (go_simp; done) | (go_simp; rfl)); (case hp => exact (Reps.none _ _)); intro v5 w5 ho5 hb5 _ _) | (at_builtin; refine Kd.R_append_rows (raw 5) (w0 := w) w.heap.size rfl (.tmp 5) (.tmp 6) 25 53 (.agg #[(.int .u64 0), (.string ⟨#[]⟩), (.string ⟨#[]⟩), (.bool false), (.bool false)]) 48 rfl Try.underlying25 infoStep rfl (by decide) (by omega) v5 [] css (some ad) css.length c (fun _ => True) (fun _ => False) rfl rfl ho5 (Kd.C_below HR.out hb5) (fun _ _ h => h) (fun _ h => h.elim) (fun _ _ => trivial) hb5 hb5.size ?aL ?_; (case aL => have := HL.out; simpa using this); intro v7 w7 ho7 hb7 _ _))
    go_ret
    exact ⟨_, rfl, Own.of_R ho7, hb7⟩
theorem CloneSaw (v : Value) (css : List (List Value)) (w : World) (hv : Sl (raw 5) w v css) (hl : css.length * 56 ≤ 140737488355328) :
    Calls Try.prog 50 #[v] w fun e w' => ∃ v : Value, e = .returned v ∧ Own 5 51 w' w.heap.size v css ∧ Below w.heap.size w w' := by
  obtain ⟨A, c, rfl, hc, hr⟩ := hv
  cases A with
  | none =>
    obtain rfl := C_none hr
    have hnil := fun (w : World) => Lib.run_eql_slice_nil (P := Try.prog) w 28 51 none 0 c 0 0 Try.underlying28
    clear hr hl
    go_enter Try.func50, Try.ntmps50
    go_wp2_with (fail)
    go_ret
    exact ⟨_, rfl, Own.nil _ _ _ _, Below.refl _ _⟩
  | some ad =>
    have hnil := fun (w : World) => Lib.run_eql_slice_nil (P := Try.prog) w 28 51 (some ad) css.length c 0 0 Try.underlying28
    have HR := Aside0.mk hr
    have HL := Aside0.mk hl
    clear hr hl
    go_enter Try.func50, Try.ntmps50
    go_wp2_with (first | ((with_reducible refine gate_dst (N := 5) rfl ?_); refine Kd.R_lit (raw 5) _ 51 ?hg (N := 5) ?hd (xs := ([] : List (List Value))) (inner := []) (ok := fun _ => True) (okp := fun _ => True) ?hr ?hp (fun _ hk => hk) trivial (Below.refl _ _) (Nat.le_refl _) (by simp) ?_; (case hd => rfl); (case hg => rfl); (case hr => first | (go_simp; done) | (go_simp; rfl)); (case hp => exact (Reps.none _ _)); intro v5 w5 ho5 hb5 _ _) | (at_builtin; refine Kd.R_append_rows (raw 5) (w0 := w) w.heap.size rfl (.tmp 5) (.tmp 6) 28 51 (.agg #[(.int .u64 0), (.string ⟨#[]⟩), (.string ⟨#[]⟩), (.int .u64 0), (.bool false)]) 56 rfl Try.underlying28 infoSaw rfl (by decide) (by omega) v5 [] css (some ad) css.length c (fun _ => True) (fun _ => False) rfl rfl ho5 (Kd.C_below HR.out hb5) (fun _ _ h => h) (fun _ h => h.elim) (fun _ _ => trivial) hb5 hb5.size ?aL ?_; (case aL => have := HL.out; simpa using this); intro v7 w7 ho7 hb7 _ _))
    go_ret
    exact ⟨_, rfl, Own.of_R ho7, hb7⟩
-- not of this seat: indexfunc Letter
-- not of this seat: indexfunc Row
theorem IndexFuncPut {α : Type} [Inhabited α] (d : Kd α) (hd : d.sz = 3) (p : α → Bool) (g : Nat) (lb : Array Value) (eg : ∀ args w, (callFunc g args).run Try.prog w = .ok (.enter g args) w) (v : Value) (l : List α) (w : World) (hv : Sl d w v l) (hp : Pred Try.prog g lb (fun cs => .agg cs.toArray) d w l p) :
    Calls Try.prog 38 #[v, .func (.func g) #[] lb] w fun e w' => e = .returned (.int .i64 (findI p l)) ∧ Below w.heap.size w w' := by
  obtain ⟨A, c, rfl, hc, hr⟩ := hv
  have HP := Aside0.mk hp
  have HR := Aside0.mk hr
  have HM := hr.2.1
  have HD := Aside0.mk hd
  clear hr hp hd
  go_enter Try.func38, Try.ntmps38
  go_wp2
  go_loopg [5, 8] l.length (fun gg _ s8 wr => ∃ kk : Nat, kk ≤ l.length ∧ l.length - kk ≤ gg ∧ s8 = .int .i64 kk ∧ Aside0 (Below w.heap.size w wr) ∧ Aside0 (∀ j, j < kk → p l[j]! = false))
  case atStart => exact ⟨0, Nat.zero_le _, by omega, rfl, ⟨Below.refl _ w⟩, ⟨fun j hj => absurd hj (Nat.not_lt_zero _)⟩⟩
  case round =>
    obtain ⟨kk, hkk, hg, rfl, BW, NO⟩ := hrel
    by_cases hlt : kk < l.length
    · have hltz : (kk : Int) < (l.length : Int) := by omega
      obtain ⟨b, o, rfl, hrow⟩ := C_row (Kd.C_below HR.out BW.out) (by rw [HD.out]; decide) (by omega)
      obtain ⟨cs, hcs, hK, hrg⟩ := hrow kk hlt
      have hcall := HP.out wr l[kk]! cs BW.out (by rw [getElem!_pos l kk hlt]; exact List.getElem_mem hlt) hK
      rw [HD.out] at hcs hrg
      clear HP HR hrow
      generalize hy : l[kk]! = y at hK hcall
      have HY := Aside0.mk hy
      have HG := Aside0.mk hrg; have HCS := Aside0.mk hcs
      clear hy hK hcs hrg
      cases hq : p y with
      | true =>
        rw [hq] at hcall
        go_wp2_with (first | ((with_reducible refine gate_load (t := 74) (p := 14) rfl ?_); refine wpList_load_mid rfl 74 (.tmp 14) rfl b (o + kk * 3) rfl cs _ HG.out Try.underlying74 rfl (by rw [HCS.out]; kernel_rfl) ?_) | (go_at_fn g; refine hcall.mono ?_; rintro e w' ⟨rfl, hb'⟩))
        go_ret
        refine ⟨?_, below_then BW.out hb' BW.out.size⟩
        rw [findI_hit p l kk hlt (by rw [HY.out]; exact hq) NO.out]; rfl
      | false =>
        rw [hq] at hcall
        go_wp2_with (first | ((with_reducible refine gate_load (t := 74) (p := 14) rfl ?_); refine wpList_load_mid rfl 74 (.tmp 14) rfl b (o + kk * 3) rfl cs _ HG.out Try.underlying74 rfl (by rw [HCS.out]; kernel_rfl) ?_) | (go_at_fn g; refine hcall.mono ?_; rintro e w' ⟨rfl, hb'⟩))
        go_roundg (l.length - (kk + 1))
        case measure => omega
        case rel =>
          refine ⟨kk + 1, by omega, by omega, by go_num, ⟨below_then BW.out hb' BW.out.size⟩, ⟨fun j hj => ?_⟩⟩
          by_cases e : j = kk
          · subst e
            rw [HY.out]; exact hq
          · exact NO.out j (by omega)
    · have hltz : ¬ (kk : Int) < (l.length : Int) := by omega
      have he : Aside0 (kk = l.length) := ⟨by omega⟩
      clear HP HR hkk hlt
      go_wp2
      go_ret
      exact ⟨by rw [findI_miss p l (he.out ▸ NO.out)]; rfl, BW.out⟩
theorem IndexFuncu64 {α : Type} [Inhabited α] (d : Kd α) (hd : d.sz = 1) (p : α → Bool) (g : Nat) (lb : Array Value) (eg : ∀ args w, (callFunc g args).run Try.prog w = .ok (.enter g args) w) (v : Value) (l : List α) (w : World) (hv : Sl d w v l) (hp : Pred Try.prog g lb (fun cs => cs.headD .nilIface) d w l p) :
    Calls Try.prog 56 #[v, .func (.func g) #[] lb] w fun e w' => e = .returned (.int .i64 (findI p l)) ∧ Below w.heap.size w w' := by
  obtain ⟨A, c, rfl, hc, hr⟩ := hv
  have HP := Aside0.mk hp
  have HR := Aside0.mk hr
  have HM := hr.2.1
  have HD := Aside0.mk hd
  clear hr hp hd
  go_enter Try.func56, Try.ntmps56
  go_wp2
  go_loopg [5, 8] l.length (fun gg _ s8 wr => ∃ kk : Nat, kk ≤ l.length ∧ l.length - kk ≤ gg ∧ s8 = .int .i64 kk ∧ Aside0 (Below w.heap.size w wr) ∧ Aside0 (∀ j, j < kk → p l[j]! = false))
  case atStart => exact ⟨0, Nat.zero_le _, by omega, rfl, ⟨Below.refl _ w⟩, ⟨fun j hj => absurd hj (Nat.not_lt_zero _)⟩⟩
  case round =>
    obtain ⟨kk, hkk, hg, rfl, BW, NO⟩ := hrel
    by_cases hlt : kk < l.length
    · have hltz : (kk : Int) < (l.length : Int) := by omega
      obtain ⟨b, o, rfl, hrow⟩ := C_row (Kd.C_below HR.out BW.out) (by rw [HD.out]; decide) (by omega)
      obtain ⟨cs, hcs, hK, hrg⟩ := hrow kk hlt
      have hcall := HP.out wr l[kk]! cs BW.out (by rw [getElem!_pos l kk hlt]; exact List.getElem_mem hlt) hK
      rw [HD.out] at hcs hrg
      clear HP HR hrow
      generalize hy : l[kk]! = y at hK hcall
      have HY := Aside0.mk hy
      obtain ⟨c0, rfl⟩ := len1 hcs; have hc0 : wr.cell? ⟨b, o + kk, none⟩ = some c0 := by have := hrg 0 _ rfl; rwa [Nat.mul_one, Nat.add_zero] at this
      clear hy hK hcs hrg
      cases hq : p y with
      | true =>
        rw [hq] at hcall
        go_wp2_with (first | (go_at_fn g; refine hcall.mono ?_; rintro e w' ⟨rfl, hb'⟩))
        go_ret
        refine ⟨?_, below_then BW.out hb' BW.out.size⟩
        rw [findI_hit p l kk hlt (by rw [HY.out]; exact hq) NO.out]; rfl
      | false =>
        rw [hq] at hcall
        go_wp2_with (first | (go_at_fn g; refine hcall.mono ?_; rintro e w' ⟨rfl, hb'⟩))
        go_roundg (l.length - (kk + 1))
        case measure => omega
        case rel =>
          refine ⟨kk + 1, by omega, by omega, by go_num, ⟨below_then BW.out hb' BW.out.size⟩, ⟨fun j hj => ?_⟩⟩
          by_cases e : j = kk
          · subst e
            rw [HY.out]; exact hq
          · exact NO.out j (by omega)
    · have hltz : ¬ (kk : Int) < (l.length : Int) := by omega
      have he : Aside0 (kk = l.length) := ⟨by omega⟩
      clear HP HR hkk hlt
      go_wp2
      go_ret
      exact ⟨by rw [findI_miss p l (he.out ▸ NO.out)]; rfl, BW.out⟩
-- not of this seat: indexfunc Mark
-- not of this seat: indexfunc Hold
-- not of this seat: indexfunc Done
-- not of this seat: indexfunc Open
theorem IndexFuncStep {α : Type} [Inhabited α] (d : Kd α) (hd : d.sz = 5) (p : α → Bool) (g : Nat) (lb : Array Value) (eg : ∀ args w, (callFunc g args).run Try.prog w = .ok (.enter g args) w) (v : Value) (l : List α) (w : World) (hv : Sl d w v l) (hp : Pred Try.prog g lb (fun cs => .agg cs.toArray) d w l p) :
    Calls Try.prog 55 #[v, .func (.func g) #[] lb] w fun e w' => e = .returned (.int .i64 (findI p l)) ∧ Below w.heap.size w w' := by
  obtain ⟨A, c, rfl, hc, hr⟩ := hv
  have HP := Aside0.mk hp
  have HR := Aside0.mk hr
  have HM := hr.2.1
  have HD := Aside0.mk hd
  clear hr hp hd
  go_enter Try.func55, Try.ntmps55
  go_wp2
  go_loopg [5, 8] l.length (fun gg _ s8 wr => ∃ kk : Nat, kk ≤ l.length ∧ l.length - kk ≤ gg ∧ s8 = .int .i64 kk ∧ Aside0 (Below w.heap.size w wr) ∧ Aside0 (∀ j, j < kk → p l[j]! = false))
  case atStart => exact ⟨0, Nat.zero_le _, by omega, rfl, ⟨Below.refl _ w⟩, ⟨fun j hj => absurd hj (Nat.not_lt_zero _)⟩⟩
  case round =>
    obtain ⟨kk, hkk, hg, rfl, BW, NO⟩ := hrel
    by_cases hlt : kk < l.length
    · have hltz : (kk : Int) < (l.length : Int) := by omega
      obtain ⟨b, o, rfl, hrow⟩ := C_row (Kd.C_below HR.out BW.out) (by rw [HD.out]; decide) (by omega)
      obtain ⟨cs, hcs, hK, hrg⟩ := hrow kk hlt
      have hcall := HP.out wr l[kk]! cs BW.out (by rw [getElem!_pos l kk hlt]; exact List.getElem_mem hlt) hK
      rw [HD.out] at hcs hrg
      clear HP HR hrow
      generalize hy : l[kk]! = y at hK hcall
      have HY := Aside0.mk hy
      have HG := Aside0.mk hrg; have HCS := Aside0.mk hcs
      clear hy hK hcs hrg
      cases hq : p y with
      | true =>
        rw [hq] at hcall
        go_wp2_with (first | ((with_reducible refine gate_load (t := 53) (p := 14) rfl ?_); refine wpList_load_mid rfl 53 (.tmp 14) rfl b (o + kk * 5) rfl cs _ HG.out Try.underlying53 rfl (by rw [HCS.out]; kernel_rfl) ?_) | (go_at_fn g; refine hcall.mono ?_; rintro e w' ⟨rfl, hb'⟩))
        go_ret
        refine ⟨?_, below_then BW.out hb' BW.out.size⟩
        rw [findI_hit p l kk hlt (by rw [HY.out]; exact hq) NO.out]; rfl
      | false =>
        rw [hq] at hcall
        go_wp2_with (first | ((with_reducible refine gate_load (t := 53) (p := 14) rfl ?_); refine wpList_load_mid rfl 53 (.tmp 14) rfl b (o + kk * 5) rfl cs _ HG.out Try.underlying53 rfl (by rw [HCS.out]; kernel_rfl) ?_) | (go_at_fn g; refine hcall.mono ?_; rintro e w' ⟨rfl, hb'⟩))
        go_roundg (l.length - (kk + 1))
        case measure => omega
        case rel =>
          refine ⟨kk + 1, by omega, by omega, by go_num, ⟨below_then BW.out hb' BW.out.size⟩, ⟨fun j hj => ?_⟩⟩
          by_cases e : j = kk
          · subst e
            rw [HY.out]; exact hq
          · exact NO.out j (by omega)
    · have hltz : ¬ (kk : Int) < (l.length : Int) := by omega
      have he : Aside0 (kk = l.length) := ⟨by omega⟩
      clear HP HR hkk hlt
      go_wp2
      go_ret
      exact ⟨by rw [findI_miss p l (he.out ▸ NO.out)]; rfl, BW.out⟩
theorem ContainsFuncu64 {α : Type} [Inhabited α] (d : Kd α) (hd : d.sz = 1) (p : α → Bool) (g : Nat) (lb : Array Value) (eg : ∀ args w, (callFunc g args).run Try.prog w = .ok (.enter g args) w) (v : Value) (l : List α) (w : World) (hv : Sl d w v l) (hp : Pred Try.prog g lb (fun cs => cs.headD .nilIface) d w l p) :
    Calls Try.prog 45 #[v, .func (.func g) #[] lb] w fun e w' => e = .returned (.bool (l.any p)) ∧ Below w.heap.size w w' := by
  have hidx := IndexFuncu64 d hd p g lb eg v l w hv hp
  have hval : l.any p = decide (0 ≤ findI p l) := by
    unfold findI
    by_cases h : l.findIdx p < l.length
    · rw [if_pos h, decide_eq_true (by omega), List.any_eq_true]
      exact List.findIdx_lt_length.1 h
    · rw [if_neg h, decide_eq_false (by omega), List.any_eq_false]
      intro x hx hpx
      exact h (List.findIdx_lt_length.2 ⟨x, hx, hpx⟩)
  have HV := Aside0.mk hval
  generalize findI p l = z at *
  clear hv hp hval
  go_enter Try.func45, Try.ntmps45
  go_wp2_with (go_at_call 56; refine hidx.mono ?_; rintro e w' ⟨rfl, hb'⟩)
  go_ret
  exact ⟨by rw [HV.out]; rfl, hb'⟩
-- not of this seat: containsfunc Put
-- not of this seat: containsfunc Hold
theorem ContainsFuncStep {α : Type} [Inhabited α] (d : Kd α) (hd : d.sz = 5) (p : α → Bool) (g : Nat) (lb : Array Value) (eg : ∀ args w, (callFunc g args).run Try.prog w = .ok (.enter g args) w) (v : Value) (l : List α) (w : World) (hv : Sl d w v l) (hp : Pred Try.prog g lb (fun cs => .agg cs.toArray) d w l p) :
    Calls Try.prog 44 #[v, .func (.func g) #[] lb] w fun e w' => e = .returned (.bool (l.any p)) ∧ Below w.heap.size w w' := by
  have hidx := IndexFuncStep d hd p g lb eg v l w hv hp
  have hval : l.any p = decide (0 ≤ findI p l) := by
    unfold findI
    by_cases h : l.findIdx p < l.length
    · rw [if_pos h, decide_eq_true (by omega), List.any_eq_true]
      exact List.findIdx_lt_length.1 h
    · rw [if_neg h, decide_eq_false (by omega), List.any_eq_false]
      intro x hx hpx
      exact h (List.findIdx_lt_length.2 ⟨x, hx, hpx⟩)
  have HV := Aside0.mk hval
  generalize findI p l = z at *
  clear hv hp hval
  go_enter Try.func44, Try.ntmps44
  go_wp2_with (go_at_call 55; refine hidx.mono ?_; rintro e w' ⟨rfl, hb'⟩)
  go_ret
  exact ⟨by rw [HV.out]; rfl, hb'⟩
end Go.Proofs.Ytkennobdoldlkaa
end
