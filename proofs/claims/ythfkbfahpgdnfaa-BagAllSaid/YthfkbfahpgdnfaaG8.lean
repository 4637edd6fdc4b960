/- bag.All: the iterator over a bag's texts, each as often as it is there: its contract, for every loop body that keeps what the iterator reads. -/
import Derived.Test.YthfkbfahpgdnfaaG4
import Derived.RangeFuncNested
import Derived.RangeFuncBound
import Derived.RangeFuncCalls
import Derived.RangeFuncLeaves
import Derived.Shelf.Abstract
import Derived.Shelf.RegionOpen
import Derived.WalkKit
import Derived.OwnWalkIn
import Derived.TacticsInMore
import Derived.LoopNIn
import Derived.LoopIn
import Derived.WalkMore
namespace Go.Proofs.Ythfkbfahpgdnfaa.PAll
open Go.RowKit Go.Shelf Go.Proofs.YthfkbfahpgdnfaaW.PrintWords Go.Proofs.Ythfkbfahpgdnfaa
set_option linter.unusedVariables false
attribute [local go_sem] Oper.semAt_some
/-- All texts of a bag, in their order, each as often as it is there. -/
def texts (l : List S79) : List ByteArray := l.flatMap (fun x => List.replicate (max x.f1 0).toNat x.f0)
/-- The i-th text. -/
def tx (l : List S79) (i : Nat) : ByteArray := (texts l)[i]!
theorem texts_app (a b : List S79) : texts (a ++ b) = texts a ++ texts b := List.flatMap_append
theorem texts_take (l : List S79) (j : Nat) (hj : j < l.length) : texts (l.take (j + 1)) = texts (l.take j) ++ List.replicate (max (l[j]!).f1 0).toNat (l[j]!).f0 := by
  rw [List.take_succ_eq_append_getElem hj, texts_app, getElem!_pos l j hj]
  congr 1
  simp [texts]
theorem texts_split (l : List S79) (j : Nat) (hj : j < l.length) : texts l = texts (l.take j) ++ (List.replicate (max (l[j]!).f1 0).toNat (l[j]!).f0 ++ texts (l.drop (j + 1))) := by
  rw [← List.append_assoc, ← texts_take l j hj, ← texts_app, List.take_append_drop]
theorem texts_at (l : List S79) (j r : Nat) (hj : j < l.length) (hr : r < (max (l[j]!).f1 0).toNat) : (texts (l.take j)).length + r < (texts l).length ∧ tx l ((texts (l.take j)).length + r) = (l[j]!).f0 := by
  unfold tx
  have h := texts_split l j hj
  rw [h]
  generalize l[j]! = x at *
  generalize texts (l.take j) = a
  generalize texts (l.drop (j + 1)) = c
  have hlen : a.length + r < (a ++ (List.replicate (max x.f1 0).toNat x.f0 ++ c)).length := by rw [List.length_append, List.length_append, List.length_replicate]; omega
  refine ⟨hlen, ?_⟩
  rw [getElem!_def, List.getElem?_append_right (Nat.le_add_right _ _), List.getElem?_append_left (by rw [List.length_replicate]; omega), Nat.add_sub_cancel_left, List.getElem?_replicate, if_pos hr]
/-- What comes in a round. -/
def encA (l : List S79) (i : Nat) : Array Value := #[.int .i64 ((i : Int) % 9223372036854775808), .string (tx l i)]
/-- What a round that goes on keeps: what lay below n₀, and all cells that lie at or beyond N1. -/
def KpA (n₀ N1 : Nat) (W W' : World) : Prop := Below n₀ W W' ∧ ∀ (b : Nat) (o : Obj), N1 ≤ b → W.heap[b]? = some o → o.isCells = true → W'.heap[b]? = some o
theorem KpA_t {n₀ N1 : Nat} {A B C : World} (h : KpA n₀ N1 A B) (k : KpA n₀ N1 B C) : KpA n₀ N1 A C := ⟨h.1.trans k.1, fun b o hb ho hc => k.2 b o hb (h.2 b o hb ho hc) hc⟩
theorem KpA_b {n₀ : Nat} {w : World} (hn : n₀ ≤ w.heap.size) (W : World) (l : Nat) (o o' : Obj) (hl : w.heap.size ≤ l) (h : W.heap[l]? = some o) (hc : o.isCells = false) (hw : o.isWalk = false) : KpA n₀ w.heap.size W (W.putObj l o') :=
  ⟨belowK_b hn W l o o' hl h hc hw, fun b o1 hb ho1 hc1 => (World.putObj_heap_other (by rintro rfl; rw [ho1] at h; cases h; rw [hc1] at hc; exact Bool.noConfusion hc)).trans ho1⟩
theorem cell_of_heap {W : World} {b i : Nat} {cs : Array Value} {t : TypeId} (h : W.heap[b]? = some (.cells cs t)) (v : Value) (hv : cs[i]? = some v) : W.cell? ⟨b, i, none⟩ = some v := by
  simp [World.cell?, h, hv]
section
variable {P : Program} {b : Frame} {a : Act} {k : List Item} {cs : List Frame} {w : World} {Q : Exit → Act → World → Prop} {F : Fence} {n : Nat}
theorem stepR_scope {c : Code} : step P (lone (b.atR a (.code (.scope c) :: k)) cs w) = .next (lone (b.atR a (.code c :: .inScope c :: k)) cs w) :=
  step_lone_go (by simp [stepG, stepG.exec, Frame.atR])
theorem stepR_inScope {c : Code} : step P (lone (b.atR a (.inScope c :: k)) cs w) = .next (lone (b.atR a k) cs w) :=
  step_lone_go (by simp [stepG, stepG.exec, Frame.atR])
theorem wpIn_scope_straight {c : Code} (h : c.wpIn F n P (Exit.noGoto Q) a w) : (Code.scope c).wpIn F n P Q a w := by
  intro b k cs hro hb hr
  have h0 : (lone (b.atR a (.code (.scope c) :: k)) cs w).fenced P F := fenced_calm hb hr rfl
  obtain ⟨e, a₁, w₁, hq, harr⟩ := h b (.inScope c :: k) cs hro hb hr
  cases e with
  | normal => exact ⟨.normal, a₁, w₁, hq, .head h0 stepR_scope (StepsIn.trans harr (.one (fenced_calm hb hr rfl) stepR_inScope))⟩
  | exit id =>
    have hx : exitTo id (.inScope c :: k) = exitTo id k := by simp [exitTo]
    exact ⟨.exit id, a₁, w₁, hq, fun k' hk => .head h0 stepR_scope (harr.1 k' (by rw [hx]; exact hk)),
      fun hr' hk => let ⟨k₁, h1, h2⟩ := harr.2 hr' (by rw [hx]; exact hk); ⟨k₁, h1, .head h0 stepR_scope h2⟩⟩
  | goto l => exact hq.elim
  | ret => exact ⟨_, a₁, w₁, hq, .of_steps (.one h0 stepR_scope) harr⟩
  | panic ch => exact ⟨_, a₁, w₁, hq, .of_steps (.one h0 stepR_scope) harr⟩
  | outgrown => exact ⟨_, a₁, w₁, hq, .of_steps (.one h0 stepR_scope) harr⟩
end
set_option maxRecDepth 100000 in
set_option maxHeartbeats 4000000 in
theorem all1_in (F : Fence) (n : Nat) (h47 : F.fn 47) (hro : F.round = none) (hn : 1 ≤ n) (lp Bs N1 : Nat) (A : Option Addr) (c : Nat) (l : List S79) (w0 : World) (hC : Kd.C k79 w0 A l.length l) (hl : l.length < 5864062014806) (hN : (texts l).length ≤ 9223372036854775806) (hx : ∀ x ∈ l, x.f1 ≤ 9223372036854775807) (J Jx : List Nat → World → Prop)
    (W : World) (hB : Below w0.heap.size w0 W) (hN1 : N1 ≤ W.heap.size) (hJ : AbidesFrom W.heap.size J)
    (hY : ∀ pre x W1, J pre W1 → pre.length < (texts l).length → YieldAt F (n - 1) Try.prog lp (encA l x) W1 fun e W' => (e = .returned (.bool true) ∧ J (pre ++ [x]) W' ∧ KpA w0.heap.size N1 W1 W') ∨ (e = .returned (.bool false) ∧ Jx (pre ++ [x]) W'))
    (hBs : W.cell? ⟨Bs, 0, none⟩ = some (.slice A l.length c)) (h0 : J [] W) :
    CallsIn F n Try.prog 47 #[.func (.yield lp) #[] #[], .pointer (some ⟨Bs, 0, none⟩)] W fun e W' => (∃ v, e = .returned v) ∧ ((∃ ys, ys = List.range (texts l).length ∧ J ys W') ∨ (∃ pre, (∃ k, k ≤ (texts l).length ∧ pre = List.range k) ∧ Jx pre W')) := by
  refine callsIn_of_wp Try.func47 rfl h47 ?_ hro
  simp only [Try.ntmps47, List.size_toArray, List.length_cons, List.length_nil, Nat.reduceAdd, Nat.reduceSub, Array.replicate_succ, Array.replicate_zero, List.push_toArray, List.append_toArray, List.nil_append, List.cons_append]
  gi_wp2
  refine wpIn_scope_straight ?_
  gi_wp2
  refine wpIn_label ?_
  gi_wp2
  gi_loopw [3, 8] (fun k i wr => ∃ j : Nat, j ≤ l.length ∧ i = .int .i64 j ∧ k = .int .i64 ((texts (l.take j)).length : Nat) ∧ J (List.range (texts (l.take j)).length) wr ∧ Below w0.heap.size w0 wr ∧ W.heap.size ≤ wr.heap.size) (fun _ i _ => l.length - (intOf i).toNat)
  case atStart => exact ⟨0, Nat.zero_le _, rfl, rfl, h0, hB, Nat.le_refl _⟩
  case round =>
    obtain ⟨j, hj, rfl, rfl, hJs, hb, hsz⟩ := hrel
    obtain ⟨wo, hwo⟩ : ∃ wo, wo = wr := ⟨wr, rfl⟩
    subst hwo
    by_cases hlt : j < l.length
    · obtain ⟨b, o, rfl, hbw, hcA, hcB⟩ := elem_cells hC j hlt
      have hcA' := (hb.cell (p := ⟨b, o + j * 2, none⟩) hbw).trans hcA
      have hcB' := (hb.cell (p := ⟨b, o + j * 2 + 1, none⟩) hbw).trans hcB
      have hxj := hx _ (show l[j]! ∈ l by rw [getElem!_pos l j hlt]; exact List.getElem_mem hlt)
      have hta := texts_at l j
      have htl : (texts (l.take (j + 1))).length = (texts (l.take j)).length + (max (l[j]!).f1 0).toNat := by rw [texts_take l j hlt, List.length_append, List.length_replicate]
      generalize l[j]! = x at *
      obtain ⟨m, hm⟩ : ∃ m : Nat, m = (max x.f1 0).toNat := ⟨_, rfl⟩
      rw [← hm] at hta htl
      gi_wp2
      all_goals
        gi_loopw [3, 15] (fun k i wr2 => ∃ r : Nat, r ≤ m ∧ i = .int .i64 r ∧ k = .int .i64 (((texts (l.take j)).length + r : Nat) : Int) ∧ J (List.range ((texts (l.take j)).length + r)) wr2 ∧ Below w0.heap.size w0 wr2 ∧ wo.heap.size < wr2.heap.size ∧ wr2.heap[wo.heap.size]? = some (.cells #[.string x.f0, .int .i64 x.f1] 79)) (fun _ i _ => m - (intOf i).toNat)
        case atStart => exact ⟨0, Nat.zero_le _, rfl, rfl, hJ _ _ _ none hJs (World.grownBy_alloc _ _ none) (fun r e => by cases e), hb.alloc hb.size _, by simp, World.alloc_heap_new _ _⟩
        case round =>
          obtain ⟨r, hr, rfl, rfl, hJ2, hb2, hsz2, hbox⟩ := hrel
          by_cases hrl : r < m
          · first
            | (exfalso; omega)
            | (obtain ⟨hlen, htx⟩ := hta r hlt hrl
               obtain ⟨fn, tmps, assign, body, hy, hR⟩ := hY _ ((texts (l.take j)).length + r) wr hJ2 (by rw [List.length_range]; exact hlen)
               simp only [encA, htx, Int.natCast_add, show ((texts (l.take j)).length + r : Int) % 9223372036854775808 = (texts (l.take j)).length + r by omega] at hy
               have hcx : wr.cell? ⟨wo.heap.size, 0, none⟩ = some (.string x.f0) := cell_of_heap hbox _ rfl
               have hpos : 0 < x.f1 := by omega
               gi_wp2
               refine hR.mono ?_
               rintro e W3 (⟨rfl, hJ3, hk3⟩ | ⟨rfl, hJx3⟩)
               · gi_wp2
                 go_roundw
                 case rel => exact ⟨r + 1, by omega, by simp, by simp; omega, by rw [← Nat.add_assoc, List.range_succ]; exact hJ3, hb2.trans hk3.1, by have := hk3.1.size; omega, hk3.2 _ _ (by omega) hbox rfl⟩
                 case measure => simp [intOf]; omega
               · gi_wp2
                 simp only [Exit.noGoto_normal]
                 go_end0
                 exact ⟨⟨_, rfl⟩, .inr ⟨_, ⟨(texts (l.take j)).length + r + 1, hlen, List.range_succ.symm⟩, hJx3⟩⟩)
          · obtain rfl : r = m := by omega
            gi_wp2
            go_roundw
            case rel => exact ⟨j + 1, by omega, by simp, by rw [htl], by rw [htl]; exact hJ2, hb2, by omega⟩
            case measure => simp [intOf]; omega
    · obtain rfl : j = l.length := by omega
      gi_wp2
      simp only [Exit.noGoto_normal]
      go_end0
      exact ⟨⟨_, rfl⟩, .inl ⟨_, by rw [List.take_length], hJs⟩⟩
set_option maxHeartbeats 1000000 in
/-- bag.All(b): the slice value is boxed; the function value holds the box. -/
theorem all_in (F : Fence) (n : Nat) (h : F.fn 20) (hro : F.round = none) (a : Option Addr) (len cap : Nat) (w : World) :
    CallsIn F n Try.prog 20 #[.slice a len cap] w fun e w' => e = .returned (.func (.func 47) #[] #[.pointer (some ⟨w.heap.size, 0, none⟩)]) ∧ w' = w.alloc (.cells #[.slice a len cap] 22) := by
  refine callsIn_of_wp Try.func20 rfl h ?_ hro
  simp only [Try.ntmps20, List.size_toArray, List.length_cons, List.length_nil, Nat.reduceAdd, Nat.reduceSub, Array.replicate_succ, Array.replicate_zero, List.push_toArray, List.append_toArray, List.nil_append, List.cons_append]
  gi_wp2
  go_ret
  exact ⟨rfl, rfl⟩
theorem all_stops (F : Fence) (n : Nat) (h47 : F.fn 47) (hro : F.round = none) (hn : 1 ≤ n) (Bs : Nat) (A : Option Addr) (c : Nat) (l : List S79) (w0 : World) (hC : Kd.C k79 w0 A l.length l) (hl : l.length < 5864062014806) (hN : (texts l).length ≤ 9223372036854775806) (hx : ∀ x ∈ l, x.f1 ≤ 9223372036854775807)
    (w : World) (hB : Below w0.heap.size w0 w) (hBs : Bs < w.heap.size) (hc : w.cell? ⟨Bs, 0, none⟩ = some (.slice A l.length c)) :
    SeqStopsK F n Try.prog 47 #[.pointer (some ⟨Bs, 0, none⟩)] (encA l) (KpA w0.heap.size w.heap.size) (fun ys => ys = List.range (texts l).length) (fun pre => ∃ k, k ≤ (texts l).length ∧ pre = List.range k) (texts l).length w := fun lp J Jx W hW hJ _ hY h0 =>
  all1_in F n h47 hro hn lp Bs w.heap.size A c l w0 hC hl hN hx J Jx W (hB.trans (hW.mono hB.size)) hW.size hJ hY ((hW.cell (p := ⟨Bs, 0, none⟩) hBs).trans hc) h0
end Go.Proofs.Ythfkbfahpgdnfaa.PAll
