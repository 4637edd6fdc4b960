/- Joined texts of the claim ShardFirm (part 50): contracts of functions and plain laws. -/
import Derived.Test.YtmcgcdpiceikeaaJShardFirm49
import Derived.Test.YtmcgcdpiceikeaaJShardFirm24
import Derived.Test.YtmcgcdpiceikeaaJShardFirm12
import Derived.Test.YtmcgcdpiceikeaaJShardFirm17
section
/- Orders that are read; a shard behind orders. -/
namespace Go.Proofs.Ytmcgcdpiceikeaa.PAll
open Go.RowKit Go.Proofs.YtmcgcdpiceikeaaW.PrintWords Go.Proofs.YtmcgcdpiceikeaaW.PrintMore Go.Proofs.Ytmcgcdpiceikeaa
set_option linter.unusedVariables false
instance : Inhabited S34 := ⟨⟨0, ⟨0, 0⟩, ⟨#[]⟩, [], false, []⟩⟩
theorem orderCells {W : World} {x : S34} {cs : List Value} (h : k34.K W x cs) : ∃ A c B n d, cs = [.int .i64 x.f0, .int .u64 x.f1.f0, .int .u64 x.f1.f1, .string x.f2, .slice A x.f3.length c, .bool x.f4, .slice B n d] ∧ x.f3.length ≤ c ∧ Kd.C k54 W A x.f3.length x.f3 := by
  obtain ⟨_, _, hcs, rfl, ⟨_, _, rfl, ⟨_, _, rfl, rfl, rfl⟩, ⟨_, _, rfl, rfl, ⟨_, _, rfl, ⟨A, c, rfl, l, g⟩, ⟨_, _, rfl, rfl, ⟨B, d, rfl, _, _⟩⟩⟩⟩⟩⟩ := h
  exact ⟨A, c, B, _, d, hcs, l, g⟩
theorem orderRow {W : World} {l : List S34} {A : Option Addr} (h : Kd.C k34 W A l.length l) (j : Nat) (hj : j < l.length) : ∃ b o, A = some ⟨b, o, none⟩ ∧ ∃ (B : Option Addr) (c : Nat) (D : Option Addr) (n d : Nat), (l[j]!).f3.length ≤ c ∧ Kd.C k54 W B (l[j]!).f3.length (l[j]!).f3 ∧ W.cell? ⟨b, o + j * 7, none⟩ = some (.int .i64 (l[j]!).f0) ∧ W.cell? ⟨b, o + j * 7 + 1, none⟩ = some (.int .u64 (l[j]!).f1.f0) ∧ W.cell? ⟨b, o + j * 7 + 2, none⟩ = some (.int .u64 (l[j]!).f1.f1) ∧ W.cell? ⟨b, o + j * 7 + 3, none⟩ = some (.string (l[j]!).f2) ∧ W.cell? ⟨b, o + j * 7 + 4, none⟩ = some (.slice B (l[j]!).f3.length c) ∧ W.cell? ⟨b, o + j * 7 + 5, none⟩ = some (.bool (l[j]!).f4) ∧ W.cell? ⟨b, o + j * 7 + 6, none⟩ = some (.slice D n d) := by
  obtain ⟨b, o, rfl, hrow⟩ := C_row h (by decide) (by omega)
  obtain ⟨cs, hcs, hK, hrg⟩ := hrow j hj
  obtain ⟨B, c, D, n, d, rfl, h1, h2⟩ := orderCells hK
  exact ⟨b, o, rfl, B, c, D, n, d, h1, h2, hrg 0 _ rfl, hrg 1 _ rfl, hrg 2 _ rfl, hrg 3 _ rfl, hrg 4 _ rfl, hrg 5 _ rfl, hrg 6 _ rfl⟩
def emptyS : Shd := ⟨[], [], [], [], 0⟩
theorem emptyAt (w : World) : ShdAt (w.alloc (.cells #[.slice none 0 0, .slice none 0 0, .slice none 0 0, .slice none 0 0, .int .u64 0] 28)) w.heap.size emptyS :=
  ShdAt.made (s := emptyS) ⟨_, _, _, _, rfl, Sl.nil _ _, Sl.nil _ _, Sl.nil _ _, Sl.nil _ _⟩
theorem txCellsA {W : World} {x : S30} {cs : Array Value} (h : k30.K W x cs.toList) : cs = #[.int .u64 x.f0, .int .u64 x.f1] := by
  have := flat30.openK _ _ _ h
  exact Array.toList_inj.1 this
end Go.Proofs.Ytmcgcdpiceikeaa.PAll
end
section
/- What the laws' arguments read as: orders. -/
namespace Go.Proofs.Ytmcgcdpiceikeaa.PAll
open Go.RowKit Go.Proofs.YtmcgcdpiceikeaaW.PrintWords Go.Proofs.Ytmcgcdpiceikeaa
set_option linter.unusedVariables false
structure S61 where
  f0 : (List S34)
  f1 : S30
  f2 : ByteArray
  f3 : (List S34)
theorem lenAt2 {α : Type _} {cs : List α} (h : cs.length = 2) : ∃ c0 c1, cs = [c0, c1] := by
  match cs, h with
  | [c0, c1], _ => exact ⟨_, _, rfl⟩
theorem lenAt3 {α : Type _} {cs : List α} (h : cs.length = 3) : ∃ c0 c1 c2, cs = [c0, c1, c2] := by
  match cs, h with
  | [c0, c1, c2], _ => exact ⟨_, _, _, rfl⟩
theorem lenAt6 {α : Type _} {cs : List α} (h : cs.length = 6) : ∃ c0 c1 c2 c3 c4 c5, cs = [c0, c1, c2, c3, c4, c5] := by
  match cs, h with
  | [c0, c1, c2, c3, c4, c5], _ => exact ⟨_, _, _, _, _, _, rfl⟩
theorem lenAt7 {α : Type _} {cs : List α} (h : cs.length = 7) : ∃ c0 c1 c2 c3 c4 c5 c6, cs = [c0, c1, c2, c3, c4, c5, c6] := by
  match cs, h with
  | [c0, c1, c2, c3, c4, c5, c6], _ => exact ⟨_, _, _, _, _, _, _, rfl⟩
def ok30 (x : S30) : Prop := (fun n : Int => (Lit.int .u64 n).wf = true) x.f0 ∧ (fun n : Int => (Lit.int .u64 n).wf = true) x.f1
theorem cells30 : Try.prog.cellsOf 30 = 2 := by kernel_rfl
set_option maxRecDepth 100000 in
theorem opens30 : Opens Try.prog 30 k30 ok30 := by
  intro H enc w base spare held fuel cs x ps h hw
  obtain ⟨xs, n, _, hx, hl, hlen, hf⟩ := DataW.trod_struct Try.underlying30 h
  simp only [Prod.mk.injEq] at hx
  obtain ⟨rfl, _⟩ := hx
  obtain ⟨y0, y1, rfl⟩ : ∃ y0 y1, xs = [y0, y1] := by
    have hz : xs.length = 2 := by rw [hlen]; rfl
    exact lenAt2 hz
  obtain ⟨c0, c1, rfl⟩ := lenAt2 (hl.trans cells30)
  have h0 : DataW.trod enc Try.prog w base spare held n 26 [c0] = some y0 := hf 0 _ rfl
  have h1 : DataW.trod enc Try.prog w base spare held n 26 [c1] = some y1 := hf 1 _ rfl
  simp only [DataW.weights, Try.underlying30, List.map_cons, List.map_nil, DataW.weightsEach, List.mem_append] at hw
  obtain ⟨a0, k0_, s0⟩ := (Opens.int (k := .u64) Try.underlying26) H enc w base spare held n _ y0.1 y0.2 h0 (fun q hq => hw q (.inl hq))
  obtain ⟨a1, k1_, s1⟩ := (Opens.int (k := .u64) Try.underlying26) H enc w base spare held n _ y1.1 y1.2 h1 (fun q hq => hw q (.inr (.inl hq)))
  exact ⟨⟨a0, a1⟩, ⟨[c0], [c1], rfl, k0_, k1_⟩, s0, s1⟩
def ok54 (x : S54) : Prop := (fun s : ByteArray => s.size ≤ 140737488351232) x.f0 ∧ (fun s : ByteArray => s.size ≤ 140737488351232) x.f1 ∧ (fun _ : Bool => True) x.f2
theorem cells54 : Try.prog.cellsOf 54 = 3 := by kernel_rfl
set_option maxRecDepth 100000 in
theorem opens54 : Opens Try.prog 54 k54 ok54 := by
  intro H enc w base spare held fuel cs x ps h hw
  obtain ⟨xs, n, _, hx, hl, hlen, hf⟩ := DataW.trod_struct Try.underlying54 h
  simp only [Prod.mk.injEq] at hx
  obtain ⟨rfl, _⟩ := hx
  obtain ⟨y0, y1, y2, rfl⟩ : ∃ y0 y1 y2, xs = [y0, y1, y2] := by
    have hz : xs.length = 3 := by rw [hlen]; rfl
    exact lenAt3 hz
  obtain ⟨c0, c1, c2, rfl⟩ := lenAt3 (hl.trans cells54)
  have h0 : DataW.trod enc Try.prog w base spare held n 9 [c0] = some y0 := hf 0 _ rfl
  have h1 : DataW.trod enc Try.prog w base spare held n 9 [c1] = some y1 := hf 1 _ rfl
  have h2 : DataW.trod enc Try.prog w base spare held n 4 [c2] = some y2 := hf 2 _ rfl
  simp only [DataW.weights, Try.underlying54, List.map_cons, List.map_nil, DataW.weightsEach, List.mem_append] at hw
  obtain ⟨a0, k0_, s0⟩ := (Opens.string Try.underlying9) H enc w base spare held n _ y0.1 y0.2 h0 (fun q hq => hw q (.inl hq))
  obtain ⟨a1, k1_, s1⟩ := (Opens.string Try.underlying9) H enc w base spare held n _ y1.1 y1.2 h1 (fun q hq => hw q (.inr (.inl hq)))
  obtain ⟨a2, k2_, s2⟩ := (Opens.bool Try.underlying4) H enc w base spare held n _ y2.1 y2.2 h2 (fun q hq => hw q (.inr (.inr (.inl hq))))
  exact ⟨⟨a0, a1, a2⟩, ⟨[c0], [c1, c2], rfl, k0_, ⟨[c1], [c2], rfl, k1_, k2_⟩⟩, s0, s1, s2⟩
def ok34 (x : S34) : Prop := (fun n : Int => (Lit.int .i64 n).wf = true) x.f0 ∧ ok30 x.f1 ∧ (fun s : ByteArray => s.size ≤ 140737488351232) x.f2 ∧ (fun l => l.length * Try.prog.bytesOf 54 ≤ 140737488351232 ∧ ∀ x ∈ l, ok54 x) x.f3 ∧ (fun _ : Bool => True) x.f4 ∧ (fun l => l.length * Try.prog.bytesOf 26 ≤ 140737488351232 ∧ ∀ x ∈ l, (fun n : Int => (Lit.int .u64 n).wf = true) x) x.f5
theorem cells34 : Try.prog.cellsOf 34 = 7 := by kernel_rfl
set_option maxRecDepth 100000 in
theorem opens34 : Opens Try.prog 34 k34 ok34 := by
  intro H enc w base spare held fuel cs x ps h hw
  obtain ⟨xs, n, _, hx, hl, hlen, hf⟩ := DataW.trod_struct Try.underlying34 h
  simp only [Prod.mk.injEq] at hx
  obtain ⟨rfl, _⟩ := hx
  obtain ⟨y0, y1, y2, y3, y4, y5, rfl⟩ : ∃ y0 y1 y2 y3 y4 y5, xs = [y0, y1, y2, y3, y4, y5] := by
    have hz : xs.length = 6 := by rw [hlen]; rfl
    exact lenAt6 hz
  obtain ⟨c0, c1, c2, c3, c4, c5, c6, rfl⟩ := lenAt7 (hl.trans cells34)
  have h0 : DataW.trod enc Try.prog w base spare held n 3 [c0] = some y0 := hf 0 _ rfl
  have h1 : DataW.trod enc Try.prog w base spare held n 30 [c1, c2] = some y1 := hf 1 _ rfl
  have h2 : DataW.trod enc Try.prog w base spare held n 9 [c3] = some y2 := hf 2 _ rfl
  have h3 : DataW.trod enc Try.prog w base spare held n 31 [c4] = some y3 := hf 3 _ rfl
  have h4 : DataW.trod enc Try.prog w base spare held n 4 [c5] = some y4 := hf 4 _ rfl
  have h5 : DataW.trod enc Try.prog w base spare held n 32 [c6] = some y5 := hf 5 _ rfl
  simp only [DataW.weights, Try.underlying34, List.map_cons, List.map_nil, DataW.weightsEach, List.mem_append] at hw
  obtain ⟨a0, k0_, s0⟩ := (Opens.int (k := .i64) Try.underlying3) H enc w base spare held n _ y0.1 y0.2 h0 (fun q hq => hw q (.inl hq))
  obtain ⟨a1, k1_, s1⟩ := opens30 H enc w base spare held n _ y1.1 y1.2 h1 (fun q hq => hw q (.inr (.inl hq)))
  obtain ⟨a2, k2_, s2⟩ := (Opens.string Try.underlying9) H enc w base spare held n _ y2.1 y2.2 h2 (fun q hq => hw q (.inr (.inr (.inl hq))))
  obtain ⟨a3, k3_, s3⟩ := (Opens.slice Try.underlying31 (by kernel_rfl) opens54) H enc w base spare held n _ y3.1 y3.2 h3 (fun q hq => hw q (.inr (.inr (.inr (.inl hq)))))
  obtain ⟨a4, k4_, s4⟩ := (Opens.bool Try.underlying4) H enc w base spare held n _ y4.1 y4.2 h4 (fun q hq => hw q (.inr (.inr (.inr (.inr (.inl hq))))))
  obtain ⟨a5, k5_, s5⟩ := (Opens.slice Try.underlying32 (by kernel_rfl) (Opens.int (k := .u64) Try.underlying26)) H enc w base spare held n _ y5.1 y5.2 h5 (fun q hq => hw q (.inr (.inr (.inr (.inr (.inr (.inl hq)))))))
  exact ⟨⟨a0, a1, a2, a3, a4, a5⟩, ⟨[c0], [c1, c2, c3, c4, c5, c6], rfl, k0_, ⟨[c1, c2], [c3, c4, c5, c6], rfl, k1_, ⟨[c3], [c4, c5, c6], rfl, k2_, ⟨[c4], [c5, c6], rfl, k3_, ⟨[c5], [c6], rfl, k4_, k5_⟩⟩⟩⟩⟩, s0, s1, s2, s3, s4, s5⟩
theorem wf_u64d {n : Int} (h : (Lit.int .u64 n).wf = true) : 0 ≤ n ∧ n < 18446744073709551616 := by
  simp [Lit.wf, IntKind.min, IntKind.max, IntKind.signed, IntKind.bits] at h
  omega
theorem okTx_of {x : S30} (h : ok30 x) : okTx x := ⟨wf_u64d h.1, wf_u64d h.2⟩
theorem okTx_orders {l : List S34} (h : ∀ x ∈ l, ok34 x) : ∀ x ∈ l, okTx x.f1 := fun x hx => okTx_of (h x hx).2.1
end Go.Proofs.Ytmcgcdpiceikeaa.PAll
end
section
/- The boxes of shard and order, and one open's row, behind a call. -/
namespace Go.Proofs.Ytmcgcdpiceikeaa.PAll
open Go.RowKit Go.Proofs.YtmcgcdpiceikeaaW.PrintWords Go.Proofs.YtmcgcdpiceikeaaW.PrintMore Go.Proofs.Ytmcgcdpiceikeaa
set_option linter.unusedVariables false
theorem keepOne {q w1 : World} {a : Addr} {v : Value} (e : q.cell? a = some v) (hb : Below q.heap.size q w1) : w1.cell? a = some v := (hb.cell (World.block_lt_of_cell? _ _ e)).trans e
end Go.Proofs.Ytmcgcdpiceikeaa.PAll
end
section
-- Printed by this session's pr.sh (the kit's print.py, several laws in one namespace). Not trusted: Lean checks it.
namespace Go.Proofs.Ytmcgcdpiceikeaa.PAll
open Go.RowKit Go.Proofs.YtmcgcdpiceikeaaW.PrintWords Go.Proofs.YtmcgcdpiceikeaaW.PrintLast Go.Proofs.YtmcgcdpiceikeaaW.PrintMore
attribute [local go_sem] max2_int min2_int max_two min_two max_three min_three max_four min_four   -- for this text's walks alone
set_option linter.unusedVariables false
set_option linter.unusedSimpArgs false

attribute [local go_sem high] eqA30
/-! ### ferrulelaw13_firm: function 15 -/
def ferrulelaw13_firm.l0 : Nat → Int → List (S50) → List (S75) → List (S48) → List (S68) → Int → Int → Int → Option (Bool)
  | 0, _, _, _, _, _, _, _, _ => none
  | k + 1, x5, x561000, x561001, x561002, x561003, x561004, x562000, x562001 => if x5 < (x561002.length : Int) then (if 0 ≤ x5 then (if (((rd_T48 x561002 x5).f0.f0) == x562000 && (((rd_T48 x561002 x5).f0.f1) == x562001)) = true then (some ((rd_T48 x561002 x5).f1)) else (ferrulelaw13_firm.l0 k (wrap64 (x5 + 1)) x561000 x561001 x561002 x561003 x561004 x562000 x562001)) else (none)) else (some false)
def ferrulelaw13_firm.f (k : Nat) (l0_0 : List (S50)) (l0_1 : List (S75)) (l0_2 : List (S48)) (l0_3 : List (S68)) (a0_4 : Int) (a1_0 : Int) (a1_1 : Int) : Option (Bool) := ferrulelaw13_firm.l0 k 0 l0_0 l0_1 l0_2 l0_3 a0_4 a1_0 a1_1
set_option maxHeartbeats 8000000 in
set_option maxRecDepth 100000 in
theorem ferrulelaw13_firm.calls (k : Nat) (A0_0 : Option Addr) (c0_0 : Nat) (l0_0 : List (S50)) (A0_1 : Option Addr) (c0_1 : Nat) (l0_1 : List (S75)) (A0_2 : Option Addr) (c0_2 : Nat) (l0_2 : List (S48)) (A0_3 : Option Addr) (c0_3 : Nat) (l0_3 : List (S68)) (a0_4 : Int) (a1_0 : Int) (a1_1 : Int) (r : Bool) (w : World) (hr0_0 : Kd.C k50 w A0_0 l0_0.length l0_0) (hc0_0 : l0_0.length ≤ c0_0) (hr0_1 : Kd.C k75 w A0_1 l0_1.length l0_1) (hc0_1 : l0_1.length ≤ c0_1) (hr0_2 : Kd.C k48 w A0_2 l0_2.length l0_2) (hc0_2 : l0_2.length ≤ c0_2) (hr0_3 : Kd.C k68 w A0_3 l0_3.length l0_3) (hc0_3 : l0_3.length ≤ c0_3) (h : ferrulelaw13_firm.f k l0_0 l0_1 l0_2 l0_3 a0_4 a1_0 a1_1 = some r) :
    Calls Try.prog 15 #[.agg #[.slice A0_0 l0_0.length c0_0, .slice A0_1 l0_1.length c0_1, .slice A0_2 l0_2.length c0_2, .slice A0_3 l0_3.length c0_3, .int .u64 a0_4], .agg #[.int .u64 a1_0, .int .u64 a1_1]] w fun e w' => e = .returned (.bool r) ∧ Below w.heap.size w w' := by
  have hu28 := Try.underlying28
  have hu30 := Try.underlying30
  have HR0_0 := Aside0.mk hr0_0
  have HC0_0 := Aside0.mk hc0_0
  clear hr0_0 hc0_0
  have HR0_1 := Aside0.mk hr0_1
  have HC0_1 := Aside0.mk hc0_1
  clear hr0_1 hc0_1
  have HR0_2 := Aside0.mk hr0_2
  have HC0_2 := Aside0.mk hc0_2
  clear hr0_2 hc0_2
  have HR0_3 := Aside0.mk hr0_3
  have HC0_3 := Aside0.mk hc0_3
  clear hr0_3 hc0_3
  have HB := Aside0.mk (Below.refl w.heap.size w)
  have H : (ferrulelaw13_firm.l0 k 0 l0_0 l0_1 l0_2 l0_3 a0_4 a1_0 a1_1) = some r := h
  clear h
  have H' := Aside0.mk H
  clear H
  go_enter Try.func15, Try.ntmps15
  go_wp2_with (first | ((with_reducible refine gate_dst (N := 2) rfl ?_); refine box_event ?hg (N := 2) ?hd (cs := #[.slice A0_0 l0_0.length c0_0, .slice A0_1 l0_1.length c0_1, .slice A0_2 l0_2.length c0_2, .slice A0_3 l0_3.length c0_3, .int .u64 a0_4]) (t := 28) ?hr ?_; (case hd => rfl); (case hg => rfl); (case hr => first | (go_simp; done) | (go_simp; rfl)); intro gb560 hg w3 hbox hb; have n0_ := Aside0.mk (below_step (by repeat (first | (with_reducible first | exact HB.out | apply below_alloc | apply pw_below_drewN | apply below_drew1) | exact HB.out)) hb); have n1_ := Aside0.mk (hbox); have n2_ := Aside0.mk ((by rw [hg]; exact (below_size (by repeat (first | (with_reducible first | exact HB.out | apply below_alloc | apply pw_below_drewN | apply below_drew1) | exact HB.out))) : w.heap.size ≤ gb560)); have n3_ := Aside0.mk ((by rw [hg]; exact (below_size (by repeat (first | (with_reducible first | exact HB.out | apply below_alloc | apply pw_below_drewN | apply below_drew1) | exact HB.out))) : w.heap.size ≤ gb560)); clear HB; have HB := n0_; have BK560 := n1_; have GW560 := n2_; have GE560 := n3_; clear n0_ n1_ n2_ n3_; clear hb hbox hg) | ((with_reducible refine gate_dst (N := 3) rfl ?_); refine box_event ?hg (N := 3) ?hd (cs := #[.int .u64 a1_0, .int .u64 a1_1]) (t := 30) ?hr ?_; (case hd => rfl); (case hg => rfl); (case hr => first | (go_simp; done) | (go_simp; rfl)); intro gb561 hg w4 hbox hb; have n0_ := Aside0.mk (blk_below (g := gb560) (o := .cells #[.slice A0_0 l0_0.length c0_0, .slice A0_1 l0_1.length c0_1, .slice A0_2 l0_2.length c0_2, .slice A0_3 l0_3.length c0_3, .int .u64 a0_4] 28 (0, 0)) (by (with_reducible repeat (first | refine blk_drewN ?_ _ | refine blk_drew ?_ | refine blk_alloc ?_ _)); exact BK560.out) hb); have n1_ := Aside0.mk (below_step (by repeat (first | (with_reducible first | exact HB.out | apply below_alloc | apply pw_below_drewN | apply below_drew1 | refine below_set ?_ GE560.out) | exact HB.out)) hb); have n2_ := Aside0.mk (hbox); have n3_ := Aside0.mk ((by rw [hg]; exact (below_size (by repeat (first | (with_reducible first | exact HB.out | apply below_alloc | apply pw_below_drewN | apply below_drew1 | refine below_set ?_ GE560.out) | exact HB.out))) : w.heap.size ≤ gb561)); have n4_ := Aside0.mk ((by rw [hg]; exact (below_size (by repeat (first | (with_reducible first | exact HB.out | apply below_alloc | apply pw_below_drewN | apply below_drew1 | refine below_set ?_ GE560.out) | exact HB.out))) : w.heap.size ≤ gb561)); have n5_ := Aside0.mk ((by rw [hg]; exact Nat.ne_of_lt (blk_lt (g := gb560) (o := .cells #[.slice A0_0 l0_0.length c0_0, .slice A0_1 l0_1.length c0_1, .slice A0_2 l0_2.length c0_2, .slice A0_3 l0_3.length c0_3, .int .u64 a0_4] 28 (0, 0)) (by (with_reducible repeat (first | refine blk_drewN ?_ _ | refine blk_drew ?_ | refine blk_alloc ?_ _)); exact BK560.out)) : gb560 ≠ gb561)); have n6_ := Aside0.mk ((by rw [hg]; exact Nat.ne_of_gt (blk_lt (g := gb560) (o := .cells #[.slice A0_0 l0_0.length c0_0, .slice A0_1 l0_1.length c0_1, .slice A0_2 l0_2.length c0_2, .slice A0_3 l0_3.length c0_3, .int .u64 a0_4] 28 (0, 0)) (by (with_reducible repeat (first | refine blk_drewN ?_ _ | refine blk_drew ?_ | refine blk_alloc ?_ _)); exact BK560.out)) : gb561 ≠ gb560)); clear BK560; clear HB; have BK560 := n0_; have HB := n1_; have BK561 := n2_; have GW561 := n3_; have GE561 := n4_; have NB560_561 := n5_; have NB561_560 := n6_; clear n0_ n1_ n2_ n3_ n4_ n5_ n6_; clear hb hbox hg))
  repeat (go_quiet (first | ((with_reducible refine gate_dst (N := 2) rfl ?_); refine box_event ?hg (N := 2) ?hd (cs := #[.slice A0_0 l0_0.length c0_0, .slice A0_1 l0_1.length c0_1, .slice A0_2 l0_2.length c0_2, .slice A0_3 l0_3.length c0_3, .int .u64 a0_4]) (t := 28) ?hr ?_; (case hd => rfl); (case hg => rfl); (case hr => first | (go_simp; done) | (go_simp; rfl)); intro gb560 hg w3 hbox hb; have n0_ := Aside0.mk (below_step (by repeat (first | (with_reducible first | exact HB.out | apply below_alloc | apply pw_below_drewN | apply below_drew1) | exact HB.out)) hb); have n1_ := Aside0.mk (hbox); have n2_ := Aside0.mk ((by rw [hg]; exact (below_size (by repeat (first | (with_reducible first | exact HB.out | apply below_alloc | apply pw_below_drewN | apply below_drew1) | exact HB.out))) : w.heap.size ≤ gb560)); have n3_ := Aside0.mk ((by rw [hg]; exact (below_size (by repeat (first | (with_reducible first | exact HB.out | apply below_alloc | apply pw_below_drewN | apply below_drew1) | exact HB.out))) : w.heap.size ≤ gb560)); clear HB; have HB := n0_; have BK560 := n1_; have GW560 := n2_; have GE560 := n3_; clear n0_ n1_ n2_ n3_; clear hb hbox hg) | ((with_reducible refine gate_dst (N := 3) rfl ?_); refine box_event ?hg (N := 3) ?hd (cs := #[.int .u64 a1_0, .int .u64 a1_1]) (t := 30) ?hr ?_; (case hd => rfl); (case hg => rfl); (case hr => first | (go_simp; done) | (go_simp; rfl)); intro gb561 hg w4 hbox hb; have n0_ := Aside0.mk (blk_below (g := gb560) (o := .cells #[.slice A0_0 l0_0.length c0_0, .slice A0_1 l0_1.length c0_1, .slice A0_2 l0_2.length c0_2, .slice A0_3 l0_3.length c0_3, .int .u64 a0_4] 28 (0, 0)) (by (with_reducible repeat (first | refine blk_drewN ?_ _ | refine blk_drew ?_ | refine blk_alloc ?_ _)); exact BK560.out) hb); have n1_ := Aside0.mk (below_step (by repeat (first | (with_reducible first | exact HB.out | apply below_alloc | apply pw_below_drewN | apply below_drew1 | refine below_set ?_ GE560.out) | exact HB.out)) hb); have n2_ := Aside0.mk (hbox); have n3_ := Aside0.mk ((by rw [hg]; exact (below_size (by repeat (first | (with_reducible first | exact HB.out | apply below_alloc | apply pw_below_drewN | apply below_drew1 | refine below_set ?_ GE560.out) | exact HB.out))) : w.heap.size ≤ gb561)); have n4_ := Aside0.mk ((by rw [hg]; exact (below_size (by repeat (first | (with_reducible first | exact HB.out | apply below_alloc | apply pw_below_drewN | apply below_drew1 | refine below_set ?_ GE560.out) | exact HB.out))) : w.heap.size ≤ gb561)); have n5_ := Aside0.mk ((by rw [hg]; exact Nat.ne_of_lt (blk_lt (g := gb560) (o := .cells #[.slice A0_0 l0_0.length c0_0, .slice A0_1 l0_1.length c0_1, .slice A0_2 l0_2.length c0_2, .slice A0_3 l0_3.length c0_3, .int .u64 a0_4] 28 (0, 0)) (by (with_reducible repeat (first | refine blk_drewN ?_ _ | refine blk_drew ?_ | refine blk_alloc ?_ _)); exact BK560.out)) : gb560 ≠ gb561)); have n6_ := Aside0.mk ((by rw [hg]; exact Nat.ne_of_gt (blk_lt (g := gb560) (o := .cells #[.slice A0_0 l0_0.length c0_0, .slice A0_1 l0_1.length c0_1, .slice A0_2 l0_2.length c0_2, .slice A0_3 l0_3.length c0_3, .int .u64 a0_4] 28 (0, 0)) (by (with_reducible repeat (first | refine blk_drewN ?_ _ | refine blk_drew ?_ | refine blk_alloc ?_ _)); exact BK560.out)) : gb561 ≠ gb560)); clear BK560; clear HB; have BK560 := n0_; have HB := n1_; have BK561 := n2_; have GW561 := n3_; have GE561 := n4_; have NB560_561 := n5_; have NB561_560 := n6_; clear n0_ n1_ n2_ n3_ n4_ n5_ n6_; clear hb hbox hg)); try go_wp2_with (first | ((with_reducible refine gate_dst (N := 2) rfl ?_); refine box_event ?hg (N := 2) ?hd (cs := #[.slice A0_0 l0_0.length c0_0, .slice A0_1 l0_1.length c0_1, .slice A0_2 l0_2.length c0_2, .slice A0_3 l0_3.length c0_3, .int .u64 a0_4]) (t := 28) ?hr ?_; (case hd => rfl); (case hg => rfl); (case hr => first | (go_simp; done) | (go_simp; rfl)); intro gb560 hg w3 hbox hb; have n0_ := Aside0.mk (below_step (by repeat (first | (with_reducible first | exact HB.out | apply below_alloc | apply pw_below_drewN | apply below_drew1) | exact HB.out)) hb); have n1_ := Aside0.mk (hbox); have n2_ := Aside0.mk ((by rw [hg]; exact (below_size (by repeat (first | (with_reducible first | exact HB.out | apply below_alloc | apply pw_below_drewN | apply below_drew1) | exact HB.out))) : w.heap.size ≤ gb560)); have n3_ := Aside0.mk ((by rw [hg]; exact (below_size (by repeat (first | (with_reducible first | exact HB.out | apply below_alloc | apply pw_below_drewN | apply below_drew1) | exact HB.out))) : w.heap.size ≤ gb560)); clear HB; have HB := n0_; have BK560 := n1_; have GW560 := n2_; have GE560 := n3_; clear n0_ n1_ n2_ n3_; clear hb hbox hg) | ((with_reducible refine gate_dst (N := 3) rfl ?_); refine box_event ?hg (N := 3) ?hd (cs := #[.int .u64 a1_0, .int .u64 a1_1]) (t := 30) ?hr ?_; (case hd => rfl); (case hg => rfl); (case hr => first | (go_simp; done) | (go_simp; rfl)); intro gb561 hg w4 hbox hb; have n0_ := Aside0.mk (blk_below (g := gb560) (o := .cells #[.slice A0_0 l0_0.length c0_0, .slice A0_1 l0_1.length c0_1, .slice A0_2 l0_2.length c0_2, .slice A0_3 l0_3.length c0_3, .int .u64 a0_4] 28 (0, 0)) (by (with_reducible repeat (first | refine blk_drewN ?_ _ | refine blk_drew ?_ | refine blk_alloc ?_ _)); exact BK560.out) hb); have n1_ := Aside0.mk (below_step (by repeat (first | (with_reducible first | exact HB.out | apply below_alloc | apply pw_below_drewN | apply below_drew1 | refine below_set ?_ GE560.out) | exact HB.out)) hb); have n2_ := Aside0.mk (hbox); have n3_ := Aside0.mk ((by rw [hg]; exact (below_size (by repeat (first | (with_reducible first | exact HB.out | apply below_alloc | apply pw_below_drewN | apply below_drew1 | refine below_set ?_ GE560.out) | exact HB.out))) : w.heap.size ≤ gb561)); have n4_ := Aside0.mk ((by rw [hg]; exact (below_size (by repeat (first | (with_reducible first | exact HB.out | apply below_alloc | apply pw_below_drewN | apply below_drew1 | refine below_set ?_ GE560.out) | exact HB.out))) : w.heap.size ≤ gb561)); have n5_ := Aside0.mk ((by rw [hg]; exact Nat.ne_of_lt (blk_lt (g := gb560) (o := .cells #[.slice A0_0 l0_0.length c0_0, .slice A0_1 l0_1.length c0_1, .slice A0_2 l0_2.length c0_2, .slice A0_3 l0_3.length c0_3, .int .u64 a0_4] 28 (0, 0)) (by (with_reducible repeat (first | refine blk_drewN ?_ _ | refine blk_drew ?_ | refine blk_alloc ?_ _)); exact BK560.out)) : gb560 ≠ gb561)); have n6_ := Aside0.mk ((by rw [hg]; exact Nat.ne_of_gt (blk_lt (g := gb560) (o := .cells #[.slice A0_0 l0_0.length c0_0, .slice A0_1 l0_1.length c0_1, .slice A0_2 l0_2.length c0_2, .slice A0_3 l0_3.length c0_3, .int .u64 a0_4] 28 (0, 0)) (by (with_reducible repeat (first | refine blk_drewN ?_ _ | refine blk_drew ?_ | refine blk_alloc ?_ _)); exact BK560.out)) : gb561 ≠ gb560)); clear BK560; clear HB; have BK560 := n0_; have HB := n1_; have BK561 := n2_; have GW561 := n3_; have GE561 := n4_; have NB560_561 := n5_; have NB561_560 := n6_; clear n0_ n1_ n2_ n3_ n4_ n5_ n6_; clear hb hbox hg)))
  go_loopg [5] k (fun kq v5 w' => ∃ (x5_1 : Int), v5 = .int .i64 x5_1 ∧ Aside0 (ferrulelaw13_firm.l0 kq x5_1 l0_0 l0_1 l0_2 l0_3 a0_4 a1_0 a1_1 = some r) ∧ Aside0 (kq ≤ k) ∧ Aside0 (w'.heap[gb560]? = some (.cells #[(.slice A0_0 l0_0.length c0_0), (.slice A0_1 l0_1.length c0_1), (.slice A0_2 l0_2.length c0_2), (.slice A0_3 l0_3.length c0_3), .int .u64 a0_4] 28 (0, 0))) ∧ Aside0 (w'.heap[gb561]? = some (.cells #[.int .u64 a1_0, .int .u64 a1_1] 30 (0, 0))) ∧ Aside0 (Below w.heap.size w w'))
  case atStart => exact ⟨(0), (by first | rfl | (simp; done) | (simp [*]; done)), H', ⟨Nat.le_refl _⟩, ⟨by (with_reducible repeat (first | refine blk_drewN ?_ _ | refine blk_drew ?_ | refine blk_alloc ?_ _)); exact BK560.out⟩, ⟨by (with_reducible repeat (first | refine blk_drewN ?_ _ | refine blk_drew ?_ | refine blk_alloc ?_ _)); exact BK561.out⟩, ⟨by repeat (first | (with_reducible first | exact HB.out | apply below_alloc | apply pw_below_drewN | apply below_drew1 | refine below_set ?_ GE560.out | refine below_set ?_ GE561.out) | exact HB.out)⟩⟩
  case round =>
    clear H'
    try clear c1
    try clear p2
    obtain ⟨x5_1, rfl, HA, HK1, BK560, BK561, HB⟩ := hrel
    cases gk with
    | zero => exact absurd HA.out (by simp [ferrulelaw13_firm.l0])
    | succ k1 =>
      have H := HA.out
      clear HA
      simp only [ferrulelaw13_firm.l0] at H
      by_cases c5 : x5_1 < (l0_2.length : Int)
      · rw [if_pos c5] at H
        have c5b0 : decide (x5_1 < (l0_2.length : Int)) = true := decide_eq_true c5
        clear c5
        by_cases c6 : 0 ≤ x5_1
        · rw [if_pos c6] at H
          have c6b0 : decide (0 ≤ x5_1) = true := decide_eq_true c6
          clear c6
          by_cases c7 : (((rd_T48 l0_2 x5_1).f0.f0) == a1_0 && (((rd_T48 l0_2 x5_1).f0.f1) == a1_1)) = true
          · rw [if_pos c7] at H
            have c7b0 : (((rd_T48 l0_2 x5_1).f0.f0) == a1_0 && (((rd_T48 l0_2 x5_1).f0.f1) == a1_1)) = true := c7
            (try (have c7b1 : decide (((rd_T48 l0_2 x5_1).f0.f0) = a1_0 && (((rd_T48 l0_2 x5_1).f0.f1) == a1_1)) = true := by simpa using c7))
            (try (have c7b2 : (((rd_T48 l0_2 x5_1).f0.f0) == a1_0 && (((rd_T48 l0_2 x5_1).f0.f1) == a1_1)) = true := by simpa using c7))
            clear c7
            obtain rfl := Option.some.inj H
            have hnb8 := NB560_561.out
            have hnc8 := NB561_560.out
            have hcz9_0 : wr.cell? ⟨gb560, 0, none⟩ = some (.slice A0_0 l0_0.length c0_0) := (blk_cell BK560.out 0).trans rfl
            have hcz9_1 : wr.cell? ⟨gb560, 1, none⟩ = some (.slice A0_1 l0_1.length c0_1) := (blk_cell BK560.out 1).trans rfl
            have hcz9_2 : wr.cell? ⟨gb560, 2, none⟩ = some (.slice A0_2 l0_2.length c0_2) := (blk_cell BK560.out 2).trans rfl
            have hcz9_3 : wr.cell? ⟨gb560, 3, none⟩ = some (.slice A0_3 l0_3.length c0_3) := (blk_cell BK560.out 3).trans rfl
            have hcz9_4 : wr.cell? ⟨gb560, 4, none⟩ = some (.int .u64 a0_4) := (blk_cell BK560.out 4).trans rfl
            have hfz9_0 := blk_frozen BK560.out 0
            have hfz9_1 := blk_frozen BK560.out 1
            have hfz9_2 := blk_frozen BK560.out 2
            have hfz9_3 := blk_frozen BK560.out 3
            have hfz9_4 := blk_frozen BK560.out 4
            have p562 : 0 ≤ (x5_1 : Int) := of_decide_eq_true (by first | (with_reducible assumption) | assumption)
            have q562 : x5_1 < (l0_2.length : Int) := of_decide_eq_true (by first | (with_reducible assumption) | assumption)
            obtain ⟨ad562, A562_4, c562_4, e562, hx562_0, hx562_1, hx562_2, hx562_3, hx562_4, hl562_4, hi562_4⟩ := at_T48 HR0_2.out x5_1 p562 q562
            cases e562
            replace hx562_0 := (HB.out.cell (World.block_lt_of_cell? w _ hx562_0)).trans hx562_0
            replace hx562_1 := (HB.out.cell (World.block_lt_of_cell? w _ hx562_1)).trans hx562_1
            replace hx562_2 := (HB.out.cell (World.block_lt_of_cell? w _ hx562_2)).trans hx562_2
            replace hx562_3 := (HB.out.cell (World.block_lt_of_cell? w _ hx562_3)).trans hx562_3
            replace hx562_4 := (HB.out.cell (World.block_lt_of_cell? w _ hx562_4)).trans hx562_4
            have HR562_4 := Aside0.mk hi562_4
            have HC562_4 := Aside0.mk hl562_4
            clear hi562_4 hl562_4
            replace p562 := eq_true p562
            replace q562 := eq_true q562
            have hcz10_0 : wr.cell? ⟨gb561, 0, none⟩ = some (.int .u64 a1_0) := (blk_cell BK561.out 0).trans rfl
            have hcz10_1 : wr.cell? ⟨gb561, 1, none⟩ = some (.int .u64 a1_1) := (blk_cell BK561.out 1).trans rfl
            have hfz10_0 := blk_frozen BK561.out 0
            have hfz10_1 := blk_frozen BK561.out 1
            have p563 : 0 ≤ (x5_1 : Int) := of_decide_eq_true (by first | (with_reducible assumption) | assumption)
            have q563 : x5_1 < (l0_2.length : Int) := of_decide_eq_true (by first | (with_reducible assumption) | assumption)
            obtain ⟨ad563, A563_4, c563_4, e563, hx563_0, hx563_1, hx563_2, hx563_3, hx563_4, hl563_4, hi563_4⟩ := at_T48 HR0_2.out x5_1 p563 q563
            obtain rfl : ad562 = ad563 := (by injection e563)
            replace hx563_0 := (HB.out.cell (World.block_lt_of_cell? w _ hx563_0)).trans hx563_0
            replace hx563_1 := (HB.out.cell (World.block_lt_of_cell? w _ hx563_1)).trans hx563_1
            replace hx563_2 := (HB.out.cell (World.block_lt_of_cell? w _ hx563_2)).trans hx563_2
            replace hx563_3 := (HB.out.cell (World.block_lt_of_cell? w _ hx563_3)).trans hx563_3
            replace hx563_4 := (HB.out.cell (World.block_lt_of_cell? w _ hx563_4)).trans hx563_4
            have HR563_4 := Aside0.mk hi563_4
            have HC563_4 := Aside0.mk hl563_4
            clear hi563_4 hl563_4
            replace p563 := eq_true p563
            replace q563 := eq_true q563
            have ea_ := Option.some.inj (hx562_4.symm.trans hx563_4)
            injection ea_ with ea_ en_ ec_
            subst ea_
            subst ec_
            clear en_
            go_wp2
            repeat (go_quiet (fail); try go_wp2)
            go_ret
            exact ⟨by first | rfl | (simp [errW_none, errW_some] <;> rfl) | (simp [*, errW_none, errW_some] <;> rfl), by repeat (first | (with_reducible first | exact HB.out | apply below_alloc | apply pw_below_drewN | apply below_drew1 | refine below_set ?_ GE560.out | refine below_set ?_ GE561.out) | exact HB.out)⟩
          · rw [if_neg c7] at H
            have c7b0 : (((rd_T48 l0_2 x5_1).f0.f0) == a1_0 && (((rd_T48 l0_2 x5_1).f0.f1) == a1_1)) = false := by simpa using c7
            (try (have c7b1 : decide (((rd_T48 l0_2 x5_1).f0.f0) = a1_0 && (((rd_T48 l0_2 x5_1).f0.f1) == a1_1)) = false := by simpa using c7))
            (try (have c7b2 : (((rd_T48 l0_2 x5_1).f0.f0) == a1_0 && (((rd_T48 l0_2 x5_1).f0.f1) == a1_1)) = false := by simpa using c7))
            (try (have c7b3 : ¬ (((rd_T48 l0_2 x5_1).f0.f0) = a1_0 && (((rd_T48 l0_2 x5_1).f0.f1) == a1_1)) := by simpa using c7))
            clear c7
            have H' := Aside0.mk H
            clear H
            have hnb11 := NB560_561.out
            have hnc11 := NB561_560.out
            have hcz12_0 : wr.cell? ⟨gb560, 0, none⟩ = some (.slice A0_0 l0_0.length c0_0) := (blk_cell BK560.out 0).trans rfl
            have hcz12_1 : wr.cell? ⟨gb560, 1, none⟩ = some (.slice A0_1 l0_1.length c0_1) := (blk_cell BK560.out 1).trans rfl
            have hcz12_2 : wr.cell? ⟨gb560, 2, none⟩ = some (.slice A0_2 l0_2.length c0_2) := (blk_cell BK560.out 2).trans rfl
            have hcz12_3 : wr.cell? ⟨gb560, 3, none⟩ = some (.slice A0_3 l0_3.length c0_3) := (blk_cell BK560.out 3).trans rfl
            have hcz12_4 : wr.cell? ⟨gb560, 4, none⟩ = some (.int .u64 a0_4) := (blk_cell BK560.out 4).trans rfl
            have hfz12_0 := blk_frozen BK560.out 0
            have hfz12_1 := blk_frozen BK560.out 1
            have hfz12_2 := blk_frozen BK560.out 2
            have hfz12_3 := blk_frozen BK560.out 3
            have hfz12_4 := blk_frozen BK560.out 4
            have p562 : 0 ≤ (x5_1 : Int) := of_decide_eq_true (by first | (with_reducible assumption) | assumption)
            have q562 : x5_1 < (l0_2.length : Int) := of_decide_eq_true (by first | (with_reducible assumption) | assumption)
            obtain ⟨ad562, A562_4, c562_4, e562, hx562_0, hx562_1, hx562_2, hx562_3, hx562_4, hl562_4, hi562_4⟩ := at_T48 HR0_2.out x5_1 p562 q562
            cases e562
            replace hx562_0 := (HB.out.cell (World.block_lt_of_cell? w _ hx562_0)).trans hx562_0
            replace hx562_1 := (HB.out.cell (World.block_lt_of_cell? w _ hx562_1)).trans hx562_1
            replace hx562_2 := (HB.out.cell (World.block_lt_of_cell? w _ hx562_2)).trans hx562_2
            replace hx562_3 := (HB.out.cell (World.block_lt_of_cell? w _ hx562_3)).trans hx562_3
            replace hx562_4 := (HB.out.cell (World.block_lt_of_cell? w _ hx562_4)).trans hx562_4
            have HR562_4 := Aside0.mk hi562_4
            have HC562_4 := Aside0.mk hl562_4
            clear hi562_4 hl562_4
            replace p562 := eq_true p562
            replace q562 := eq_true q562
            have hcz13_0 : wr.cell? ⟨gb561, 0, none⟩ = some (.int .u64 a1_0) := (blk_cell BK561.out 0).trans rfl
            have hcz13_1 : wr.cell? ⟨gb561, 1, none⟩ = some (.int .u64 a1_1) := (blk_cell BK561.out 1).trans rfl
            have hfz13_0 := blk_frozen BK561.out 0
            have hfz13_1 := blk_frozen BK561.out 1
            go_wp2
            repeat (go_quiet (fail); try go_wp2)
            go_roundg k1
            case measure => have := HK1.out; omega
            case rel => exact ⟨(wrap64 (x5_1 + 1)), (by first | rfl | (simp; done) | (simp [*]; done)), H', ⟨by have := HK1.out; omega⟩, ⟨by (with_reducible repeat (first | refine blk_drewN ?_ _ | refine blk_drew ?_ | refine blk_alloc ?_ _)); exact BK560.out⟩, ⟨by (with_reducible repeat (first | refine blk_drewN ?_ _ | refine blk_drew ?_ | refine blk_alloc ?_ _)); exact BK561.out⟩, ⟨by repeat (first | (with_reducible first | exact HB.out | apply below_alloc | apply pw_below_drewN | apply below_drew1 | refine below_set ?_ GE560.out | refine below_set ?_ GE561.out) | exact HB.out)⟩⟩
        · rw [if_neg c6] at H
          exact absurd H (by simp)
      · rw [if_neg c5] at H
        have c5b0 : decide (x5_1 < (l0_2.length : Int)) = false := decide_eq_false c5
        clear c5
        obtain rfl := Option.some.inj H
        have hnb14 := NB560_561.out
        have hnc14 := NB561_560.out
        have hcz15_0 : wr.cell? ⟨gb560, 0, none⟩ = some (.slice A0_0 l0_0.length c0_0) := (blk_cell BK560.out 0).trans rfl
        have hcz15_1 : wr.cell? ⟨gb560, 1, none⟩ = some (.slice A0_1 l0_1.length c0_1) := (blk_cell BK560.out 1).trans rfl
        have hcz15_2 : wr.cell? ⟨gb560, 2, none⟩ = some (.slice A0_2 l0_2.length c0_2) := (blk_cell BK560.out 2).trans rfl
        have hcz15_3 : wr.cell? ⟨gb560, 3, none⟩ = some (.slice A0_3 l0_3.length c0_3) := (blk_cell BK560.out 3).trans rfl
        have hcz15_4 : wr.cell? ⟨gb560, 4, none⟩ = some (.int .u64 a0_4) := (blk_cell BK560.out 4).trans rfl
        have hfz15_0 := blk_frozen BK560.out 0
        have hfz15_1 := blk_frozen BK560.out 1
        have hfz15_2 := blk_frozen BK560.out 2
        have hfz15_3 := blk_frozen BK560.out 3
        have hfz15_4 := blk_frozen BK560.out 4
        go_wp2
        repeat (go_quiet (fail); try go_wp2)
        go_ret
        exact ⟨by first | rfl | (simp [errW_none, errW_some] <;> rfl) | (simp [*, errW_none, errW_some] <;> rfl), by repeat (first | (with_reducible first | exact HB.out | apply below_alloc | apply pw_below_drewN | apply below_drew1 | refine below_set ?_ GE560.out | refine below_set ?_ GE561.out) | exact HB.out)⟩

end Go.Proofs.Ytmcgcdpiceikeaa.PAll
end
