/- Joined texts of the claim GroupRises (part 13): contracts of functions and plain laws. -/
import Derived.Test.YtlmefnifhbcbcaaJGroupRises8
import Derived.Test.YtlmefnifhbcbcaaJGroupRises12
import Derived.LoopTactic
import Derived.Outline
section
/- Groups: Most, as the printed texts call it. -/
namespace Go.Proofs.Ytlmefnifhbcbcaa.PAll
open Go.RowKit Go.WideMaps Go.Maps Go.Proofs.YtlmefnifhbcbcaaW.PrintWords Go.Proofs.YtlmefnifhbcbcaaW.PrintMore Go.Proofs.Ytlmefnifhbcbcaa
set_option linter.unusedVariables false
def mostGo : (Int → Bool) → List Int → Int
  | _, [] => 0
  | S, x :: r => if S x = true then mostGo (fun y => if y = x then false else S y) r + 1 else mostGo S r
def mostV (v ids : List Int) : Bool := decide (mostGo (hasI ids) v ≥ (v.length : Int) / 2 + 1)
def u64s (l : List Int) : Bool := l.all (fun x => (Lit.int .u64 x).wf)
def group_Most.f (l0_0 l0_1 l1 : List Int) : Option Bool := if u64s l0_0 = true ∧ u64s l1 = true ∧ l0_0.length ≤ 4611686018427387904 ∧ l1.length ≤ 4611686018427387904 then some (mostV l0_0 l1) else none
theorem ret_b2 {a b : Bool} (h : a = b) : Ending.returned (.bool a) = .returned (.bool b) := by rw [h]
theorem mostGo_le : ∀ (l : List Int) (S : Int → Bool), 0 ≤ mostGo S l ∧ mostGo S l ≤ l.length
  | [], S => by simp [mostGo]
  | x :: r, S => by
    unfold mostGo
    have h1 := mostGo_le r (fun y => if y = x then false else S y)
    have h2 := mostGo_le r S
    simp only [List.length_cons]
    split <;> omega
theorem u64s_at {l : List Int} (h : u64s l = true) (j : Nat) (hj : j < l.length) : (Lit.int .u64 l[j]!).wf = true := List.all_eq_true.1 h _ (getMem l j hj)
theorem idKey (x : Int) (h : (Lit.int .u64 x).wf = true) : keyOf Try.prog 22 (.int .u64 x) = some (Lit.int .u64 x) := keyOf_int_mk Try.underlying22 h
theorem hasI_take (l : List Int) (j : Nat) (hj : j < l.length) : hasI (l.take (j + 1)) = fun z => if z = l[j]! then true else hasI (l.take j) z := by
  funext z
  rw [takeGet l j hj]
  generalize l[j]! = x
  unfold hasI
  rw [List.any_append]
  by_cases e : z = x
  · rw [if_pos e, e]; simp
  · rw [if_neg e]
    have h2 : (x == z) = false := beq_eq_false_iff_ne.2 (fun h => e h.symm)
    rw [List.any_cons, h2]; simp
theorem int_inj (x y : Int) (h : Lit.int .u64 x = Lit.int .u64 y) : x = y := by cases h; rfl
theorem cell_ofI {w : World} {A : Option Addr} {l : List Int} (h : Kd.C (Kd.int .u64) w A l.length l) (j : Nat) (hj : j < l.length) : ∃ b o, A = some ⟨b, o, none⟩ ∧ w.cell? ⟨b, o + j, none⟩ = some (.int .u64 l[j]!) := by
  obtain ⟨b, o, rfl, hrow⟩ := C_row h (by decide) (by omega)
  obtain ⟨cs, hcs, hK, hrg⟩ := hrow j hj
  obtain rfl : cs = [.int .u64 l[j]!] := hK
  refine ⟨b, o, rfl, ?_⟩
  have := hrg 0 _ rfl
  rwa [show (Kd.int .u64).sz = 1 from rfl, Nat.mul_one, Nat.add_zero] at this
theorem need_val (l m : List Int) (h : l.length ≤ 4611686018427387904) : group_Need.f l m = some ((l.length : Int) / 2 + 1) := by
  unfold group_Need.f
  congr 1
  unfold wrap64
  omega
set_option maxHeartbeats 2000000 in
set_option maxRecDepth 100000 in
theorem group_Most.calls (A0_0 : Option Addr) (c0_0 : Nat) (l0_0 : List Int) (A0_1 : Option Addr) (c0_1 : Nat) (l0_1 : List Int) (A1 : Option Addr) (c1 : Nat) (l1 : List Int) (r : Bool) (w : World) (hr0_0 : Kd.C (Kd.int .u64) w A0_0 l0_0.length l0_0) (hc0_0 : l0_0.length ≤ c0_0) (hr0_1 : Kd.C (Kd.int .u64) w A0_1 l0_1.length l0_1) (hc0_1 : l0_1.length ≤ c0_1) (hr1 : Kd.C (Kd.int .u64) w A1 l1.length l1) (hc1 : l1.length ≤ c1) (h : group_Most.f l0_0 l0_1 l1 = some r) :
    Calls Try.prog 40 #[.agg #[.slice A0_0 l0_0.length c0_0, .slice A0_1 l0_1.length c0_1], .slice A1 l1.length c1] w fun e w' => e = .returned (.bool r) ∧ Below w.heap.size w w' := by
  unfold group_Most.f at h
  split at h
  case isFalse => cases h
  rename_i hg
  obtain ⟨hu0, hu1, hl0, hl1⟩ := hg
  obtain rfl := Option.some.inj h
  have HR0 := Aside0.mk hr0_0
  have HR1 := Aside0.mk hr1
  have HU0 := Aside0.mk hu0
  have HU1 := Aside0.mk hu1
  have HC0 := Aside0.mk hc0_0
  have HC0_1 := Aside0.mk hc0_1
  have HR0_1 := Aside0.mk hr0_1
  clear h hr0_0 hr0_1 hr1 hu0 hu1 hc0_0 hc0_1
  have hmm := @run_makeMap Try.prog
  go_enter Try.func40, Try.ntmps40
  go_wp2
  go_loopg [14] l1.length (fun gg s14 wr => ∃ jj : Nat, jj ≤ l1.length ∧ l1.length - jj ≤ gg ∧ s14 = .int .i64 jj ∧ Aside0 (Below w.heap.size w wr) ∧ Aside0 (wr.heap[w.heap.size]? = some (.cells #[.slice A0_0 l0_0.length c0_0, .slice A0_1 l0_1.length c0_1] 28 (0, 0))) ∧ Aside0 (BoolMap (Lit.int .u64) 22 wr (w.heap.size + 1) jj (hasI (l1.take jj))))
  case atStart => exact ⟨0, Nat.zero_le _, by omega, rfl, ⟨((Below.refl _ _).alloc (Nat.le_refl _) _).alloc (by simp) _⟩, ⟨(Below.heap_alloc _ _ _ (by simp)).trans (heap_alloc_new w _)⟩, ⟨BoolMap.made _ _ (by have := World.ownsMap_made (H := Nat) (P := Try.prog) (k := 22) (R := plainElem Try.prog 4) (w.alloc (.cells #[.slice A0_0 l0_0.length c0_0, .slice A0_1 l0_1.length c0_1] 28)); rw [World.size_alloc] at this; exact this)⟩⟩
  case round =>
    obtain ⟨jj, hjj, hgk, rfl, BW, BX, BM⟩ := hrel
    by_cases hlt : jj < l1.length
    · have hltz : (jj : Int) < (l1.length : Int) := by omega
      obtain ⟨b, o, rfl, hc0_⟩ := cell_ofI (Kd.C_below HR1.out BW.out) jj hlt
      have HWF := Aside0.mk (u64s_at HU1.out jj hlt)
      have HT := Aside0.mk (hasI_take l1 jj hlt)
      generalize l1[jj]! = x at *
      go_wp2_with (at_mapUpdate; refine wpList_put_bool _ rfl _ _ _ 100 rfl (int_keyed Try.underlying22) Try.underlying100 int_inj (fun _ => trivial) rfl BM.out (by unfold maxLen; omega) _ x true rfl rfl (idKey x HWF.out) ?_; intro w2 hM2 hg2; have HM2 := Aside0.mk hM2; have HG2 := Aside0.mk hg2; clear hM2 hg2)
      go_roundg (l1.length - (jj + 1))
      case measure => omega
      case rel =>
        refine ⟨jj + 1, by omega, by omega, by go_num, ⟨BW.out.grown HG2.out BW.out.size (fun k e => by cases e; omega)⟩, ⟨(HG2.out.block _ (Array.getElem?_eq_some_iff.1 BX.out).1 (fun e => by have := Option.some.inj e; omega)).trans BX.out⟩, ⟨by rw [HT.out]; exact HM2.out⟩⟩
    · have hltz : ¬ (jj : Int) < (l1.length : Int) := by omega
      obtain rfl : jj = l1.length := by omega
      have HB0 := Aside0.mk (show BoolMap (Lit.int .u64) 22 wr (w.heap.size + 1) l1.length (hasI l1) by have := BM.out; rwa [List.take_length] at this)
      have hb0_ : wr.cell? ⟨w.heap.size, 0, none⟩ = some (.slice A0_0 l0_0.length c0_0) := cell_row (cs := [.slice A0_0 l0_0.length c0_0, .slice A0_1 l0_1.length c0_1]) BX.out 0
      clear hlt hjj hgk
      go_wp2
      clear hb0_
      obtain ⟨wo, rfl⟩ : ∃ wo : World, wo = wr := ⟨_, rfl⟩
      go_loopg [8, 24] l0_0.length (fun gg s8 s24 wr => ∃ (jj : Nat) (cnt : Int) (S : Int → Bool), jj ≤ l0_0.length ∧ l0_0.length - jj ≤ gg ∧ s24 = .int .i64 jj ∧ s8 = .int .i64 cnt ∧ 0 ≤ cnt ∧ cnt ≤ jj ∧ Aside0 (cnt + mostGo S (l0_0.drop jj) = mostGo (hasI l1) l0_0) ∧ Aside0 (Below w.heap.size w wr) ∧ Aside0 (wr.heap[w.heap.size]? = some (.cells #[.slice A0_0 l0_0.length c0_0, .slice A0_1 l0_1.length c0_1] 28 (0, 0))) ∧ Aside0 (BoolMap (Lit.int .u64) 22 wr (w.heap.size + 1) l1.length S))
      case atStart => exact ⟨0, 0, hasI l1, Nat.zero_le _, by omega, rfl, rfl, by omega, by omega, ⟨by rw [List.drop_zero]; omega⟩, BW, BX, HB0⟩
      case round =>
        obtain ⟨jj, cnt, S, hjj, hgk, rfl, rfl, hc0, hc1, HS, BW, BX, BM⟩ := hrel
        by_cases hlt : jj < l0_0.length
        · have hltz : (jj : Int) < (l0_0.length : Int) := by omega
          obtain ⟨b, o, rfl, hc0_⟩ := cell_ofI (Kd.C_below HR0.out BW.out) jj hlt
          have HWF := Aside0.mk (u64s_at HU0.out jj hlt)
          have HD := Aside0.mk (dropGet l0_0 jj hlt)
          generalize l0_0[jj]! = x at *
          have hlk := BM.out.lookup (int_keyed Try.underlying22) Try.underlying100 (idKey x HWF.out)
          cases hs : S x with
          | true =>
            rw [hs] at hlk
            have HSX := Aside0.mk hs
            clear hs
            go_wp2_with ((with_reducible refine gate_builtin (b := .delete) (xs := #[.tmp 33, .tmp 34]) rfl ?_); refine wpList_del_bool _ rfl _ _ 100 rfl (int_keyed Try.underlying22) Try.underlying100 int_inj rfl BM.out _ x rfl (idKey x HWF.out) ?_; intro w2 hM2 hg2; have HM2 := Aside0.mk hM2; have HG2 := Aside0.mk hg2; clear hM2 hg2)
            go_roundg (l0_0.length - (jj + 1))
            case measure => omega
            case rel =>
              refine ⟨jj + 1, cnt + 1, _, by omega, by omega, by go_num, by go_num, by omega, by omega, ⟨?_⟩, ⟨BW.out.grown HG2.out BW.out.size (fun k e => by cases e; omega)⟩, ⟨(HG2.out.block _ (Array.getElem?_eq_some_iff.1 BX.out).1 (fun e => by have := Option.some.inj e; omega)).trans BX.out⟩, HM2⟩
              have h := HS.out
              rw [HD.out, mostGo, if_pos HSX.out] at h
              omega
          | false =>
            rw [hs] at hlk
            have HSX := Aside0.mk hs
            clear hs
            go_wp2
            go_roundg (l0_0.length - (jj + 1))
            case measure => omega
            case rel =>
              refine ⟨jj + 1, cnt, S, by omega, by omega, by go_num, rfl, by omega, by omega, ⟨?_⟩, BW, BX, BM⟩
              have h := HS.out
              rw [HD.out, mostGo, if_neg (by rw [HSX.out]; decide)] at h
              exact h
        · have hltz : ¬ (jj : Int) < (l0_0.length : Int) := by omega
          obtain rfl : jj = l0_0.length := by omega
          have hb0_ : wr.cell? ⟨w.heap.size, 0, none⟩ = some (.slice A0_0 l0_0.length c0_0) := cell_row (cs := [.slice A0_0 l0_0.length c0_0, .slice A0_1 l0_1.length c0_1]) BX.out 0
          have hb1_ : wr.cell? ⟨w.heap.size, 1, none⟩ = some (.slice A0_1 l0_1.length c0_1) := cell_row (cs := [.slice A0_0 l0_0.length c0_0, .slice A0_1 l0_1.length c0_1]) BX.out 1
          have HC : Aside0 (cnt = mostGo (hasI l1) l0_0) := ⟨by have h := HS.out; rw [List.drop_length] at h; simpa [mostGo] using h⟩
          clear hlt
          go_wp2_with (go_at_call 39; refine (group_Need.calls A0_0 c0_0 l0_0 A0_1 c0_1 l0_1 _ _ (Kd.C_below HR0.out BW.out) HC0.out (Kd.C_below HR0_1.out BW.out) HC0_1.out (need_val l0_0 l0_1 hl0)).mono ?_; rintro e w5 ⟨rfl, hb5⟩)
          go_ret
          exact ⟨ret_b2 (by unfold mostV; rw [HC.out]), BW.out.trans (hb5.mono BW.out.size)⟩
end Go.Proofs.Ytlmefnifhbcbcaa.PAll
end
