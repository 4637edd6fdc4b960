/- Joined texts of the claim DriveSteps (part 27): contracts of functions and plain laws. -/
import Derived.Deep.LoopGhost
import Derived.Deep.RegionWith
import Derived.Sort.AssemblyPlain
import Derived.Sort.Walk11
import Derived.Sort.Walk13
import Derived.Sort.Walk7
import Derived.Sort.WalkC4
import Derived.Test.YtkennobdoldlkaaJDriveSteps26
import Derived.Test.YtkennobdoldlkaaProg
import Derived.Lib.SliceRun
import Derived.Shelf.Abstract
import Derived.Test.YtkennobdoldlkaaJDriveSteps2
import Derived.WalkSpells
set_option linter.unusedVariables false
set_option linter.unusedSimpArgs false
section
namespace Go.Proofs.Ytkennobdoldlkaa.PAll
open Go.Proofs Go.RowKit Go.Sort
theorem callees13U : Callees13U where
  ins := Su.insertionSort_int
  brk := Su.breakPatterns_int
  piv := Su.choosePivot_int
  par := Su.partialInsertionSort_int
  peq := Su.partitionEqualOrdered_int
  prt := Su.partitionOrdered_int
theorem plain13U : Plain13 where
  swo := swo_ltInt
  ins := insertionSort_holds
  par := partialInsertionSort_holds
  prt := partition_holds _
  peq := partitionEqual_holds _
  pdq := pdq_sorts _
def pdqWalkU : Prop := ∀ (blk off cap a b limit : Nat) (d : Array Int) (w : World), Holds (Value.int .u64) w blk off d → blk < w.heap.size → a ≤ b → b ≤ d.size → d.size < 4611686018427387904 → limit < 4611686018427387904 → Below ltInt a b d →
  Calls Try.prog 58 #[.slice (some ⟨blk, off, none⟩) d.size cap, .int .i64 a, .int .i64 b, .int .i64 limit] w fun e w' =>
    e = .returned (.tuple #[]) ∧ ∃ n os, w' = grow (putRow (Value.int .u64) (Sort.ahead w n) blk off (Sort.pdq ltInt d a b limit true true)) os
theorem pdqWalkUInt : pdqWalkU := fun blk off cap a b limit d w hH hb hab hbd hsz hl hB =>
  Su.pdqsort_int callees13U plain13U (b - a + 1) blk off cap a b limit d w (by omega) hH hb hab hbd hsz hl hB
theorem sort_u64_eq (zs : List Int) : Sort.sort ltInt zs.toArray = (zs.mergeSort fun x y => decide (x ≤ y)).toArray := by
  rw [← sortInt zs]
set_option maxRecDepth 100000 in
theorem Su.Sort_int (hpdq : pdqWalkU) (blk off cap : Nat) (d : Array Int) (w : World) (hH : Holds (Value.int .u64) w blk off d) (hblk : blk < w.heap.size) (hsz : d.size < 4611686018427387904) :
    Calls Try.prog 52 #[.slice (some ⟨blk, off, none⟩) d.size cap] w fun e w' => e = .returned (.tuple #[]) ∧ ∃ n os, w' = grow (putRow (Value.int .u64) (Sort.ahead w n) blk off (Sort.sort ltInt d)) os := by
  have HH : Hid (Holds (Value.int .u64) w blk off d) := hH
  clear hH
  have hLen : ∀ w, Calls Try.prog 59 #[.int .u64 (d.size : Int)] w fun e w' => e = .returned (.int .i64 (bitsLen d.size : Nat)) ∧ w' = w := fun w => by
    have h := Su.bits_Len (d.size : Int) w (by omega) (by omega)
    rwa [Int.toNat_natCast, bitLen_eq _ (by omega)] at h
  have hk : bitsLen d.size ≤ 62 := (bitsLen_le_iff d.size 62).2 (by omega)
  go_enter Try.func52, Try.ntmps52
  go_wp2_with (first
    | (go_at_call 59; refine (hLen _).mono ?_; rintro e w' ⟨rfl, rfl⟩)
    | (go_at_call 58; refine (hpdq blk off cap 0 d.size (bitsLen d.size) d _ (by exact HH.out) (by exact hblk) (Nat.zero_le _) (Nat.le_refl _) hsz (by omega) (Or.inl rfl)).mono ?_; rintro e w' ⟨rfl, n, os, rfl⟩))
  go_end0
  exact ⟨rfl, n, os, rfl⟩
theorem Su.slices_Sort_int (blk off cap : Nat) (zs : List Int) (w : World) (hH : Holds (Value.int .u64) w blk off zs.toArray) (hblk : blk < w.heap.size) (hsz : zs.length < 4611686018427387904) :
    Calls Try.prog 52 #[.slice (some ⟨blk, off, none⟩) zs.length cap] w fun e w' =>
      e = .returned (.tuple #[]) ∧ ∃ n os, w' = grow (putRow (Value.int .u64) (Sort.ahead w n) blk off (zs.mergeSort fun x y => decide (x ≤ y)).toArray) os := by
  have h := Su.Sort_int pdqWalkUInt blk off cap zs.toArray w hH hblk (by simpa using hsz)
  rw [sort_u64_eq] at h
  simpa using h
theorem Su.insertionSort_int_nil (p : Option Addr) (cap : Nat) (w : World) :
    Calls Try.prog 60 #[.slice p 0 cap, .int .i64 0, .int .i64 0] w fun e w' => e = .returned (.tuple #[]) ∧ w' = w := by
  go_enter Try.func60, Try.ntmps60
  go_wp2
  refine wp_loop_rounds 1 ?_
  rw [rounds_succ]
  go_wp2
  go_end0
  exact ⟨rfl, rfl⟩
set_option maxRecDepth 100000 in
theorem Su.pdqsort_int_nil (p : Option Addr) (cap : Nat) (w : World) :
    Calls Try.prog 58 #[.slice p 0 cap, .int .i64 0, .int .i64 0, .int .i64 0] w fun e w' => e = .returned (.tuple #[]) ∧ w' = w := by
  go_enter Try.func58, Try.ntmps58
  go_wp2
  refine wp_loop_rounds 1 ?_
  rw [rounds_succ]
  go_wp2_with (first | (go_at_call 60; refine (Su.insertionSort_int_nil p cap _).mono ?_; rintro e w' ⟨rfl, rfl⟩))
  refine bodyPost_ret (results_none rfl _ _ _) rfl ?_
  exact ⟨rfl, rfl⟩
set_option maxRecDepth 100000 in
theorem Su.Sort_int_nil (p : Option Addr) (cap : Nat) (w : World) :
    Calls Try.prog 52 #[.slice p 0 cap] w fun e w' => e = .returned (.tuple #[]) ∧ w' = w := by
  have hLen : ∀ w, Calls Try.prog 59 #[.int .u64 0] w fun e w' => e = .returned (.int .i64 0) ∧ w' = w := fun w => Su.bits_Len 0 w (by omega) (by omega)
  go_enter Try.func52, Try.ntmps52
  go_wp2_with (first
    | (go_at_call 59; refine (hLen _).mono ?_; rintro e w' ⟨rfl, rfl⟩)
    | (go_at_call 58; refine (Su.pdqsort_int_nil p cap _).mono ?_; rintro e w' ⟨rfl, rfl⟩))
  go_end0
  exact ⟨rfl, rfl⟩
end Go.Proofs.Ytkennobdoldlkaa.PAll
end
section
namespace Go.Proofs.Ytkennobdoldlkaa
open Go.RowKit Go.Proofs.YtkennobdoldlkaaW.PrintWords
theorem gate_load {P : Program} {ops : Array Oper} {rest : List Oper} {o : Oper} {a : Act} {Q : Exit → Act → World → Prop} {W : World} {t : TypeId} {p : Tmp} (_ho : o.op = .load t (.tmp p)) (h : wpList P ops Q (o :: rest) a W) : wpList P ops Q (o :: rest) a W := h
theorem gate_store {P : Program} {ops : Array Oper} {rest : List Oper} {o : Oper} {a : Act} {Q : Exit → Act → World → Prop} {W : World} {t : TypeId} {p : Tmp} {v : Operand} (_ho : o.op = .store t (.tmp p) v) (h : wpList P ops Q (o :: rest) a W) : wpList P ops Q (o :: rest) a W := h
theorem qz31 {P : Program} {ops : Array Oper} {rest : List Oper} {o : Oper} {a : Act} {Q : Exit → Act → World → Prop} {W : World} {N : Tmp} (_hN : o.dst = some N) (h : wpList P ops Q (o :: rest) a W) : wpList P ops Q (o :: rest) a W := h
theorem CloneStep (v : Value) (css : List (List Value)) (w : World) (hv : Sl (raw 5) w v css) (hl : css.length * 48 ≤ 140737488355328) :
    Calls Try.prog 35 #[v] w fun e w' => ∃ v : Value, e = .returned v ∧ Own 5 53 w' w.heap.size v css ∧ Below w.heap.size w w' := by
  obtain ⟨A, c, rfl, hc, hr⟩ := hv
  cases A with
  | none =>
    obtain rfl := C_none hr
    have hnil := fun (w : World) => Lib.run_eql_slice_nil (P := Try.prog) w 25 53 none 0 c 0 0 Try.underlying25
    clear hr hl
    go_enter Try.func35, Try.ntmps35
    go_wp2_with (fail)
    go_ret
    exact ⟨_, rfl, Own.nil _ _ _ _, Below.refl _ _⟩
  | some ad =>
    have hnil := fun (w : World) => Lib.run_eql_slice_nil (P := Try.prog) w 25 53 (some ad) css.length c 0 0 Try.underlying25
    have HR := qza.mk hr
    have HL := qza.mk hl
    clear hr hl
    go_enter Try.func35, Try.ntmps35
    go_wp2_with (first | ((with_reducible refine qz31 (N := 5) rfl ?_); refine Kd.R_lit (raw 5) _ 53 ?hg (N := 5) ?hd (xs := ([] : List (List Value))) (inner := []) (ok := fun _ => True) (okp := fun _ => True) ?hr ?hp (fun _ hk => hk) trivial (Below.refl _ _) (Nat.le_refl _) (by simp) ?_; (case hd => rfl); (case hg => rfl); (case hr => first | (go_simp; done) | (go_simp; rfl)); (case hp => exact (Reps.none _ _)); intro v5 w5 ho5 hb5 _ _) | (at_builtin; refine Kd.R_append_rows (raw 5) (w0 := w) w.heap.size rfl (.tmp 5) (.tmp 6) 25 53 (.agg #[(.int .u64 0), (.string ⟨#[]⟩), (.string ⟨#[]⟩), (.bool false), (.bool false)]) 48 rfl Try.underlying25 infoStep rfl (by decide) (by omega) v5 [] css (some ad) css.length c (fun _ => True) (fun _ => False) rfl rfl ho5 (Kd.C_below HR.out hb5) (fun _ _ h => h) (fun _ h => h.elim) (fun _ _ => trivial) hb5 hb5.size ?aL ?_; (case aL => have := HL.out; simpa using this); intro v7 w7 ho7 hb7 _ _))
    go_ret
    exact ⟨_, rfl, Own.of_R ho7, hb7⟩
theorem CloneSaw (v : Value) (css : List (List Value)) (w : World) (hv : Sl (raw 5) w v css) (hl : css.length * 56 ≤ 140737488355328) :
    Calls Try.prog 50 #[v] w fun e w' => ∃ v : Value, e = .returned v ∧ Own 5 51 w' w.heap.size v css ∧ Below w.heap.size w w' := by
  obtain ⟨A, c, rfl, hc, hr⟩ := hv
  cases A with
  | none =>
    obtain rfl := C_none hr
    have hnil := fun (w : World) => Lib.run_eql_slice_nil (P := Try.prog) w 28 51 none 0 c 0 0 Try.underlying28
    clear hr hl
    go_enter Try.func50, Try.ntmps50
    go_wp2_with (fail)
    go_ret
    exact ⟨_, rfl, Own.nil _ _ _ _, Below.refl _ _⟩
  | some ad =>
    have hnil := fun (w : World) => Lib.run_eql_slice_nil (P := Try.prog) w 28 51 (some ad) css.length c 0 0 Try.underlying28
    have HR := qza.mk hr
    have HL := qza.mk hl
    clear hr hl
    go_enter Try.func50, Try.ntmps50
    go_wp2_with (first | ((with_reducible refine qz31 (N := 5) rfl ?_); refine Kd.R_lit (raw 5) _ 51 ?hg (N := 5) ?hd (xs := ([] : List (List Value))) (inner := []) (ok := fun _ => True) (okp := fun _ => True) ?hr ?hp (fun _ hk => hk) trivial (Below.refl _ _) (Nat.le_refl _) (by simp) ?_; (case hd => rfl); (case hg => rfl); (case hr => first | (go_simp; done) | (go_simp; rfl)); (case hp => exact (Reps.none _ _)); intro v5 w5 ho5 hb5 _ _) | (at_builtin; refine Kd.R_append_rows (raw 5) (w0 := w) w.heap.size rfl (.tmp 5) (.tmp 6) 28 51 (.agg #[(.int .u64 0), (.string ⟨#[]⟩), (.string ⟨#[]⟩), (.int .u64 0), (.bool false)]) 56 rfl Try.underlying28 infoSaw rfl (by decide) (by omega) v5 [] css (some ad) css.length c (fun _ => True) (fun _ => False) rfl rfl ho5 (Kd.C_below HR.out hb5) (fun _ _ h => h) (fun _ h => h.elim) (fun _ _ => trivial) hb5 hb5.size ?aL ?_; (case aL => have := HL.out; simpa using this); intro v7 w7 ho7 hb7 _ _))
    go_ret
    exact ⟨_, rfl, Own.of_R ho7, hb7⟩
theorem IndexFuncPut {α : Type} [Inhabited α] (d : Kd α) (hd : d.sz = 3) (p : α → Bool) (g : Nat) (lb : Array Value) (eg : ∀ args w, (callFunc g args).run Try.prog w = .ok (.enter g args) w) (v : Value) (l : List α) (w : World) (hv : Sl d w v l) (hp : Pred Try.prog g lb (fun cs => .agg cs.toArray) d w l p) :
    Calls Try.prog 38 #[v, .func (.func g) #[] lb] w fun e w' => e = .returned (.int .i64 (findI p l)) ∧ Below w.heap.size w w' := by
  obtain ⟨A, c, rfl, hc, hr⟩ := hv
  have HP := qza.mk hp
  have HR := qza.mk hr
  have HM := hr.2.1
  have HD := qza.mk hd
  clear hr hp hd
  go_enter Try.func38, Try.ntmps38
  go_wp2
  go_loopg [5, 8] l.length (fun gg _ s8 wr => ∃ kk : Nat, kk ≤ l.length ∧ l.length - kk ≤ gg ∧ s8 = .int .i64 kk ∧ qza (Below w.heap.size w wr) ∧ qza (∀ j, j < kk → p l[j]! = false))
  case atStart => exact ⟨0, Nat.zero_le _, by omega, rfl, ⟨Below.refl _ w⟩, ⟨fun j hj => absurd hj (Nat.not_lt_zero _)⟩⟩
  case round =>
    obtain ⟨kk, hkk, hg, rfl, BW, NO⟩ := hrel
    by_cases hlt : kk < l.length
    · have hltz : (kk : Int) < (l.length : Int) := by omega
      obtain ⟨b, o, rfl, hrow⟩ := C_row (Kd.C_below HR.out BW.out) (by rw [HD.out]; decide) (by omega)
      obtain ⟨cs, hcs, hK, hrg⟩ := hrow kk hlt
      have hcall := HP.out wr l[kk]! cs BW.out (by rw [getElem!_pos l kk hlt]; exact List.getElem_mem hlt) hK
      rw [HD.out] at hcs hrg
      clear HP HR hrow
      generalize hy : l[kk]! = y at hK hcall
      have HY := qza.mk hy
      have HG := qza.mk hrg; have HCS := qza.mk hcs
      clear hy hK hcs hrg
      cases hq : p y with
      | true =>
        rw [hq] at hcall
        go_wp2_with (first | ((with_reducible refine gate_load (t := 74) (p := 14) rfl ?_); refine wpList_load_mid rfl 74 (.tmp 14) rfl b (o + kk * 3) rfl cs _ HG.out Try.underlying74 rfl (by rw [HCS.out]; kernel_rfl) ?_) | (go_at_fn g; refine hcall.mono ?_; rintro e w' ⟨rfl, hb'⟩))
        go_ret
        refine ⟨?_, below_then BW.out hb' BW.out.size⟩
        rw [findI_hit p l kk hlt (by rw [HY.out]; exact hq) NO.out]; rfl
      | false =>
        rw [hq] at hcall
        go_wp2_with (first | ((with_reducible refine gate_load (t := 74) (p := 14) rfl ?_); refine wpList_load_mid rfl 74 (.tmp 14) rfl b (o + kk * 3) rfl cs _ HG.out Try.underlying74 rfl (by rw [HCS.out]; kernel_rfl) ?_) | (go_at_fn g; refine hcall.mono ?_; rintro e w' ⟨rfl, hb'⟩))
        go_roundg (l.length - (kk + 1))
        case measure => omega
        case rel =>
          refine ⟨kk + 1, by omega, by omega, by go_num, ⟨below_then BW.out hb' BW.out.size⟩, ⟨fun j hj => ?_⟩⟩
          by_cases e : j = kk
          · subst e
            rw [HY.out]; exact hq
          · exact NO.out j (by omega)
    · have hltz : ¬ (kk : Int) < (l.length : Int) := by omega
      have he : qza (kk = l.length) := ⟨by omega⟩
      clear HP HR hkk hlt
      go_wp2
      go_ret
      exact ⟨by rw [findI_miss p l (he.out ▸ NO.out)]; rfl, BW.out⟩
theorem IndexFuncu64 {α : Type} [Inhabited α] (d : Kd α) (hd : d.sz = 1) (p : α → Bool) (g : Nat) (lb : Array Value) (eg : ∀ args w, (callFunc g args).run Try.prog w = .ok (.enter g args) w) (v : Value) (l : List α) (w : World) (hv : Sl d w v l) (hp : Pred Try.prog g lb (fun cs => cs.headD .nilIface) d w l p) :
    Calls Try.prog 56 #[v, .func (.func g) #[] lb] w fun e w' => e = .returned (.int .i64 (findI p l)) ∧ Below w.heap.size w w' := by
  obtain ⟨A, c, rfl, hc, hr⟩ := hv
  have HP := qza.mk hp
  have HR := qza.mk hr
  have HM := hr.2.1
  have HD := qza.mk hd
  clear hr hp hd
  go_enter Try.func56, Try.ntmps56
  go_wp2
  go_loopg [5, 8] l.length (fun gg _ s8 wr => ∃ kk : Nat, kk ≤ l.length ∧ l.length - kk ≤ gg ∧ s8 = .int .i64 kk ∧ qza (Below w.heap.size w wr) ∧ qza (∀ j, j < kk → p l[j]! = false))
  case atStart => exact ⟨0, Nat.zero_le _, by omega, rfl, ⟨Below.refl _ w⟩, ⟨fun j hj => absurd hj (Nat.not_lt_zero _)⟩⟩
  case round =>
    obtain ⟨kk, hkk, hg, rfl, BW, NO⟩ := hrel
    by_cases hlt : kk < l.length
    · have hltz : (kk : Int) < (l.length : Int) := by omega
      obtain ⟨b, o, rfl, hrow⟩ := C_row (Kd.C_below HR.out BW.out) (by rw [HD.out]; decide) (by omega)
      obtain ⟨cs, hcs, hK, hrg⟩ := hrow kk hlt
      have hcall := HP.out wr l[kk]! cs BW.out (by rw [getElem!_pos l kk hlt]; exact List.getElem_mem hlt) hK
      rw [HD.out] at hcs hrg
      clear HP HR hrow
      generalize hy : l[kk]! = y at hK hcall
      have HY := qza.mk hy
      obtain ⟨c0, rfl⟩ := len1 hcs; have hc0 : wr.cell? ⟨b, o + kk, none⟩ = some c0 := by have := hrg 0 _ rfl; rwa [Nat.mul_one, Nat.add_zero] at this
      clear hy hK hcs hrg
      cases hq : p y with
      | true =>
        rw [hq] at hcall
        go_wp2_with (first | (go_at_fn g; refine hcall.mono ?_; rintro e w' ⟨rfl, hb'⟩))
        go_ret
        refine ⟨?_, below_then BW.out hb' BW.out.size⟩
        rw [findI_hit p l kk hlt (by rw [HY.out]; exact hq) NO.out]; rfl
      | false =>
        rw [hq] at hcall
        go_wp2_with (first | (go_at_fn g; refine hcall.mono ?_; rintro e w' ⟨rfl, hb'⟩))
        go_roundg (l.length - (kk + 1))
        case measure => omega
        case rel =>
          refine ⟨kk + 1, by omega, by omega, by go_num, ⟨below_then BW.out hb' BW.out.size⟩, ⟨fun j hj => ?_⟩⟩
          by_cases e : j = kk
          · subst e
            rw [HY.out]; exact hq
          · exact NO.out j (by omega)
    · have hltz : ¬ (kk : Int) < (l.length : Int) := by omega
      have he : qza (kk = l.length) := ⟨by omega⟩
      clear HP HR hkk hlt
      go_wp2
      go_ret
      exact ⟨by rw [findI_miss p l (he.out ▸ NO.out)]; rfl, BW.out⟩
theorem IndexFuncStep {α : Type} [Inhabited α] (d : Kd α) (hd : d.sz = 5) (p : α → Bool) (g : Nat) (lb : Array Value) (eg : ∀ args w, (callFunc g args).run Try.prog w = .ok (.enter g args) w) (v : Value) (l : List α) (w : World) (hv : Sl d w v l) (hp : Pred Try.prog g lb (fun cs => .agg cs.toArray) d w l p) :
    Calls Try.prog 55 #[v, .func (.func g) #[] lb] w fun e w' => e = .returned (.int .i64 (findI p l)) ∧ Below w.heap.size w w' := by
  obtain ⟨A, c, rfl, hc, hr⟩ := hv
  have HP := qza.mk hp
  have HR := qza.mk hr
  have HM := hr.2.1
  have HD := qza.mk hd
  clear hr hp hd
  go_enter Try.func55, Try.ntmps55
  go_wp2
  go_loopg [5, 8] l.length (fun gg _ s8 wr => ∃ kk : Nat, kk ≤ l.length ∧ l.length - kk ≤ gg ∧ s8 = .int .i64 kk ∧ qza (Below w.heap.size w wr) ∧ qza (∀ j, j < kk → p l[j]! = false))
  case atStart => exact ⟨0, Nat.zero_le _, by omega, rfl, ⟨Below.refl _ w⟩, ⟨fun j hj => absurd hj (Nat.not_lt_zero _)⟩⟩
  case round =>
    obtain ⟨kk, hkk, hg, rfl, BW, NO⟩ := hrel
    by_cases hlt : kk < l.length
    · have hltz : (kk : Int) < (l.length : Int) := by omega
      obtain ⟨b, o, rfl, hrow⟩ := C_row (Kd.C_below HR.out BW.out) (by rw [HD.out]; decide) (by omega)
      obtain ⟨cs, hcs, hK, hrg⟩ := hrow kk hlt
      have hcall := HP.out wr l[kk]! cs BW.out (by rw [getElem!_pos l kk hlt]; exact List.getElem_mem hlt) hK
      rw [HD.out] at hcs hrg
      clear HP HR hrow
      generalize hy : l[kk]! = y at hK hcall
      have HY := qza.mk hy
      have HG := qza.mk hrg; have HCS := qza.mk hcs
      clear hy hK hcs hrg
      cases hq : p y with
      | true =>
        rw [hq] at hcall
        go_wp2_with (first | ((with_reducible refine gate_load (t := 53) (p := 14) rfl ?_); refine wpList_load_mid rfl 53 (.tmp 14) rfl b (o + kk * 5) rfl cs _ HG.out Try.underlying53 rfl (by rw [HCS.out]; kernel_rfl) ?_) | (go_at_fn g; refine hcall.mono ?_; rintro e w' ⟨rfl, hb'⟩))
        go_ret
        refine ⟨?_, below_then BW.out hb' BW.out.size⟩
        rw [findI_hit p l kk hlt (by rw [HY.out]; exact hq) NO.out]; rfl
      | false =>
        rw [hq] at hcall
        go_wp2_with (first | ((with_reducible refine gate_load (t := 53) (p := 14) rfl ?_); refine wpList_load_mid rfl 53 (.tmp 14) rfl b (o + kk * 5) rfl cs _ HG.out Try.underlying53 rfl (by rw [HCS.out]; kernel_rfl) ?_) | (go_at_fn g; refine hcall.mono ?_; rintro e w' ⟨rfl, hb'⟩))
        go_roundg (l.length - (kk + 1))
        case measure => omega
        case rel =>
          refine ⟨kk + 1, by omega, by omega, by go_num, ⟨below_then BW.out hb' BW.out.size⟩, ⟨fun j hj => ?_⟩⟩
          by_cases e : j = kk
          · subst e
            rw [HY.out]; exact hq
          · exact NO.out j (by omega)
    · have hltz : ¬ (kk : Int) < (l.length : Int) := by omega
      have he : qza (kk = l.length) := ⟨by omega⟩
      clear HP HR hkk hlt
      go_wp2
      go_ret
      exact ⟨by rw [findI_miss p l (he.out ▸ NO.out)]; rfl, BW.out⟩
theorem ContainsFuncu64 {α : Type} [Inhabited α] (d : Kd α) (hd : d.sz = 1) (p : α → Bool) (g : Nat) (lb : Array Value) (eg : ∀ args w, (callFunc g args).run Try.prog w = .ok (.enter g args) w) (v : Value) (l : List α) (w : World) (hv : Sl d w v l) (hp : Pred Try.prog g lb (fun cs => cs.headD .nilIface) d w l p) :
    Calls Try.prog 45 #[v, .func (.func g) #[] lb] w fun e w' => e = .returned (.bool (l.any p)) ∧ Below w.heap.size w w' := by
  have hidx := IndexFuncu64 d hd p g lb eg v l w hv hp
  have hval : l.any p = decide (0 ≤ findI p l) := by
    unfold findI
    by_cases h : l.findIdx p < l.length
    · rw [if_pos h, decide_eq_true (by omega), List.any_eq_true]
      exact List.findIdx_lt_length.1 h
    · rw [if_neg h, decide_eq_false (by omega), List.any_eq_false]
      intro x hx hpx
      exact h (List.findIdx_lt_length.2 ⟨x, hx, hpx⟩)
  have HV := qza.mk hval
  generalize findI p l = z at *
  clear hv hp hval
  go_enter Try.func45, Try.ntmps45
  go_wp2_with (go_at_call 56; refine hidx.mono ?_; rintro e w' ⟨rfl, hb'⟩)
  go_ret
  exact ⟨by rw [HV.out]; rfl, hb'⟩
theorem ContainsFuncStep {α : Type} [Inhabited α] (d : Kd α) (hd : d.sz = 5) (p : α → Bool) (g : Nat) (lb : Array Value) (eg : ∀ args w, (callFunc g args).run Try.prog w = .ok (.enter g args) w) (v : Value) (l : List α) (w : World) (hv : Sl d w v l) (hp : Pred Try.prog g lb (fun cs => .agg cs.toArray) d w l p) :
    Calls Try.prog 44 #[v, .func (.func g) #[] lb] w fun e w' => e = .returned (.bool (l.any p)) ∧ Below w.heap.size w w' := by
  have hidx := IndexFuncStep d hd p g lb eg v l w hv hp
  have hval : l.any p = decide (0 ≤ findI p l) := by
    unfold findI
    by_cases h : l.findIdx p < l.length
    · rw [if_pos h, decide_eq_true (by omega), List.any_eq_true]
      exact List.findIdx_lt_length.1 h
    · rw [if_neg h, decide_eq_false (by omega), List.any_eq_false]
      intro x hx hpx
      exact h (List.findIdx_lt_length.2 ⟨x, hx, hpx⟩)
  have HV := qza.mk hval
  generalize findI p l = z at *
  clear hv hp hval
  go_enter Try.func44, Try.ntmps44
  go_wp2_with (go_at_call 55; refine hidx.mono ?_; rintro e w' ⟨rfl, hb'⟩)
  go_ret
  exact ⟨by rw [HV.out]; rfl, hb'⟩
end Go.Proofs.Ytkennobdoldlkaa
end
