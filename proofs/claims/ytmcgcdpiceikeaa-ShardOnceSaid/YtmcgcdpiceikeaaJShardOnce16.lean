/- Joined texts of the claim ShardOnce (part 16): contracts of functions and plain laws. -/
import Derived.Test.YtmcgcdpiceikeaaJShardOnce15
import Derived.Test.YtmcgcdpiceikeaaJShardOnce13
section
/- shard: known, over, full, no. -/
namespace Go.Proofs.Ytmcgcdpiceikeaa.PAll
open Go.RowKit Go.Proofs.YtmcgcdpiceikeaaW.PrintWords Go.Proofs.YtmcgcdpiceikeaaW.PrintMore Go.Proofs.Ytmcgcdpiceikeaa
set_option linter.unusedVariables false
theorem openCells {W : World} {x : S48} {cs : List Value} (h : k48.K W x cs) : ∃ A c, cs = [.int .u64 x.f0.f0, .int .u64 x.f0.f1, .bool x.f1, .bool x.f2, .slice A x.f3.length c] ∧ x.f3.length ≤ c ∧ Kd.C k54 W A x.f3.length x.f3 := by
  obtain ⟨_, _, hcs, ⟨_, _, rfl, rfl, rfl⟩, ⟨_, _, rfl, rfl, ⟨_, _, rfl, rfl, ⟨A, c, rfl, l, g⟩⟩⟩⟩ := h
  exact ⟨A, c, hcs, l, g⟩
instance : Inhabited S48 := ⟨⟨⟨0, 0⟩, false, false, []⟩⟩
def isOpenT (t : S30) (x : S48) : Bool := sameTx x.f0 t
def isDoneT (t : S30) (x : S68) : Bool := sameTx x.f0 t
def shv (A0 : Option Addr) (n0 c0 : Nat) (A1 : Option Addr) (n1 c1 : Nat) (A2 : Option Addr) (n2 c2 : Nat) (A3 : Option Addr) (n3 c3 : Nat) (ver : Int) : Array Value := #[.slice A0 n0 c0, .slice A1 n1 c1, .slice A2 n2 c2, .slice A3 n3 c3, .int .u64 ver]
theorem cells5 {w : World} {cs : Array Value} {e e2 : TypeId} {a b : Value} (i : Nat) (u : Value) (hu : cs[i]? = some u) : ((w.alloc (.cells cs e)).alloc (.cells #[a, b] e2)).cell? ⟨w.heap.size, i, none⟩ = some u ∧ ((w.alloc (.cells cs e)).alloc (.cells #[a, b] e2)).cell? ⟨w.heap.size + 1, 0, none⟩ = some a ∧ ((w.alloc (.cells cs e)).alloc (.cells #[a, b] e2)).cell? ⟨w.heap.size + 1, 1, none⟩ = some b := by
  have hB := (Below.refl (w.alloc (.cells cs e)).heap.size (w.alloc (.cells cs e))).alloc (Nat.le_refl _) (.cells #[a, b] e2)
  have h := (hB.block w.heap.size (by simp)).trans (heap_alloc_new w (.cells cs e))
  have h2 := heap_alloc_new (w.alloc (.cells cs e)) (.cells #[a, b] e2)
  rw [World.size_alloc] at h2
  refine ⟨?_, cell_row (cs := [a, b]) h2 0, cell_row (cs := [a, b]) h2 1⟩
  have := cell_row (cs := cs.toList) (by simpa using h) i
  rw [this]
  simpa using hu
set_option maxHeartbeats 1000000 in
theorem shardKnown_sl (A0 : Option Addr) (n0 c0 : Nat) (A1 : Option Addr) (n1 c1 : Nat) (A2 : Option Addr) (c2 : Nat) (A3 : Option Addr) (n3 c3 : Nat) (ver : Int) (l : List S48) (t : S30) (w : World) (hr : Kd.C k48 w A2 l.length l) (hc : l.length ≤ c2) :
    Calls Try.prog 52 #[.agg (shv A0 n0 c0 A1 n1 c1 A2 l.length c2 A3 n3 c3 ver), .agg #[.int .u64 t.f0, .int .u64 t.f1]] w fun e w' => e = .returned (.int .i64 (findI (isOpenT t) l)) ∧ Below w.heap.size w w' := by
  have HB0 := Aside0.mk (((Below.refl w.heap.size w).alloc (Nat.le_refl _) (.cells #[.slice A0 n0 c0, .slice A1 n1 c1, .slice A2 l.length c2, .slice A3 n3 c3, .int .u64 ver] 28)).alloc (by simp) (.cells #[.int .u64 t.f0, .int .u64 t.f1] 30))
  have hc5 := cells5 (w := w) (cs := #[.slice A0 n0 c0, .slice A1 n1 c1, .slice A2 l.length c2, .slice A3 n3 c3, .int .u64 ver]) (e := 28) (e2 := 30) (a := .int .u64 t.f0) (b := .int .u64 t.f1) 2 (.slice A2 l.length c2) rfl
  have HP := Aside0.mk (show Pred Try.prog 83 #[.pointer (some ⟨w.heap.size + 1, 0, none⟩)] (fun cs => .agg cs.toArray) k48 ((w.alloc (.cells #[.slice A0 n0 c0, .slice A1 n1 c1, .slice A2 l.length c2, .slice A3 n3 c3, .int .u64 ver] 28)).alloc (.cells #[.int .u64 t.f0, .int .u64 t.f1] 30)) l (isOpenT t) from fun W x cs hb _ hK => by
    obtain ⟨A, c, rfl, _, _⟩ := openCells hK
    exact shardKnown1 (w.heap.size + 1) t x.f0.f0 x.f0.f1 x.f1 x.f2 _ A x.f3.length c rfl W ((hb.cell (World.block_lt_of_cell? _ _ hc5.2.1)).trans hc5.2.1) ((hb.cell (World.block_lt_of_cell? _ _ hc5.2.2)).trans hc5.2.2))
  have HIX := Aside0.mk (IndexFuncOpen k48 rfl (isOpenT t) 83 #[.pointer (some ⟨w.heap.size + 1, 0, none⟩)] (enters_of Try.func83 (by kernel_rfl) rfl) (.slice A2 l.length c2) l _ ((show Sl k48 w (.slice A2 l.length c2) l from ⟨A2, c2, rfl, hc, hr⟩).below HB0.out) HP.out)
  unfold shv
  clear hr hc hc5 HP
  go_enter Try.func52, Try.ntmps52
  go_wp2_with (go_at_call 82; refine HIX.out.mono ?_; rintro e w2 ⟨rfl, hb2⟩)
  go_ret
  exact ⟨rfl, HB0.out.trans (hb2.mono HB0.out.size)⟩
theorem doneCells {W : World} {x : S68} {cs : List Value} (h : k68.K W x cs) : cs = [.int .u64 x.f0.f0, .int .u64 x.f0.f1, .bool x.f1] := by
  obtain rfl := flat68.openK _ _ _ h
  rfl
theorem doneRow {W : World} {l : List S68} {A : Option Addr} (h : Kd.C k68 W A l.length l) (j : Nat) (hj : j < l.length) : ∃ b o, A = some ⟨b, o, none⟩ ∧ W.cell? ⟨b, o + j * 3, none⟩ = some (.int .u64 (l[j]!).f0.f0) ∧ W.cell? ⟨b, o + j * 3 + 1, none⟩ = some (.int .u64 (l[j]!).f0.f1) ∧ W.cell? ⟨b, o + j * 3 + 2, none⟩ = some (.bool (l[j]!).f1) := by
  obtain ⟨b, o, rfl, hrow⟩ := C_row h (by decide) (by omega)
  obtain ⟨cs, hcs, hK, hrg⟩ := hrow j hj
  obtain rfl := doneCells hK
  exact ⟨b, o, rfl, hrg 0 _ rfl, hrg 1 _ rfl, hrg 2 _ rfl⟩
def overV (l : List S68) (t : S30) : S68 := if 0 ≤ findI (isDoneT t) l then l[(findI (isDoneT t) l).toNat]! else ⟨⟨0, 0⟩, false⟩
theorem findI_range0 {α : Type} (p : α → Bool) (l : List α) (h : 0 ≤ findI p l) : ∃ i : Nat, i < l.length ∧ findI p l = (i : Int) := by
  unfold findI at *
  by_cases c : l.findIdx p < l.length
  · rw [if_pos c]; exact ⟨_, c, rfl⟩
  · rw [if_neg c] at h; omega
theorem findI_neg0 {α : Type} (p : α → Bool) (l : List α) (h : ¬ 0 ≤ findI p l) : findI p l = -1 := by
  unfold findI at *
  by_cases c : l.findIdx p < l.length
  · rw [if_pos c] at h; omega
  · rw [if_neg c]
theorem results_ct_u {P : Program} {fn : Func} {p q : Tmp} {ty : TypeId} (h : fn.results = #[.cell p ty, .tmp q]) (tmps : Array Value) (w : World) (g : Nat) (t : TypeId) (cs : Array Value) (fr : Nat × Nat) (d : TypeDesc) (v : Value)
    (hp : tmps.getD p undef = .pointer (some ⟨g, 0, none⟩)) (hg : w.heap[g]? = some (.cells cs t fr))
    (hu : P.underlying ty = some d) (hd : (match d with | .struct _ | .array _ _ => true | _ => false) = true) (hi : (P.info? ty).map (·.size) = some cs.size) (hq : tmps.getD q undef = v) :
    (results fn tmps).run P w = .ok (.tuple #[.agg cs, v]) w := by
  have hp' : tmps[p]?.getD undef = .pointer (some ⟨g, 0, none⟩) := by simpa using hp
  have hq' : tmps[q]?.getD undef = v := by simpa using hq
  simp [results, h, hp', hq', asAddr, run_loadVar_row w g t ty cs fr d hg hu hd hi]
theorem alloc3 (w : World) (o1 o2 o3 : Obj) : (((w.alloc o1).alloc o2).alloc o3).heap[w.heap.size + 1 + 1]? = some o3 := by
  have := heap_alloc_new ((w.alloc o1).alloc o2) o3
  rwa [World.size_alloc, World.size_alloc] at this
set_option maxHeartbeats 2000000 in
set_option maxRecDepth 100000 in
theorem shardOver_sl (A0 : Option Addr) (n0 c0 : Nat) (A1 : Option Addr) (n1 c1 : Nat) (A2 : Option Addr) (n2 c2 : Nat) (A3 : Option Addr) (c3 : Nat) (ver : Int) (l : List S68) (t : S30) (w : World) (hr : Kd.C k68 w A3 l.length l) (hc : l.length ≤ c3) :
    Calls Try.prog 51 #[.agg (shv A0 n0 c0 A1 n1 c1 A2 n2 c2 A3 l.length c3 ver), .agg #[.int .u64 t.f0, .int .u64 t.f1]] w fun e w' => e = .returned (.tuple #[.agg #[.int .u64 (overV l t).f0.f0, .int .u64 (overV l t).f0.f1, .bool (overV l t).f1], .bool (decide (0 ≤ findI (isDoneT t) l))]) ∧ Below w.heap.size w w' := by
  have HB0 := Aside0.mk ((((Below.refl w.heap.size w).alloc (Nat.le_refl _) (.cells #[.slice A0 n0 c0, .slice A1 n1 c1, .slice A2 n2 c2, .slice A3 l.length c3, .int .u64 ver] 28)).alloc (by simp) (.cells #[.int .u64 t.f0, .int .u64 t.f1] 30)).alloc (by simp; omega) (.cells #[.int .u64 0, .int .u64 0, .bool false] 68))
  obtain ⟨h3, h4, h5⟩ := cells5 (w := w) (cs := #[.slice A0 n0 c0, .slice A1 n1 c1, .slice A2 n2 c2, .slice A3 l.length c3, .int .u64 ver]) (e := 28) (e2 := 30) (a := .int .u64 t.f0) (b := .int .u64 t.f1) 3 (.slice A3 l.length c3) rfl
  have hB3 := (Below.refl _ ((w.alloc (.cells #[.slice A0 n0 c0, .slice A1 n1 c1, .slice A2 n2 c2, .slice A3 l.length c3, .int .u64 ver] 28)).alloc (.cells #[.int .u64 t.f0, .int .u64 t.f1] 30))).alloc (Nat.le_refl _) (.cells #[.int .u64 0, .int .u64 0, .bool false] 68)
  have h3 := (hB3.cell (World.block_lt_of_cell? _ _ h3)).trans h3
  have h4 := (hB3.cell (World.block_lt_of_cell? _ _ h4)).trans h4
  have h5 := (hB3.cell (World.block_lt_of_cell? _ _ h5)).trans h5
  have hbx := alloc3 w (.cells #[.slice A0 n0 c0, .slice A1 n1 c1, .slice A2 n2 c2, .slice A3 l.length c3, .int .u64 ver] 28) (.cells #[.int .u64 t.f0, .int .u64 t.f1] 30) (.cells #[.int .u64 0, .int .u64 0, .bool false] 68)
  have HP := Aside0.mk (show Pred Try.prog 81 #[.pointer (some ⟨w.heap.size + 1, 0, none⟩)] (fun cs => .agg cs.toArray) k68 (((w.alloc (.cells #[.slice A0 n0 c0, .slice A1 n1 c1, .slice A2 n2 c2, .slice A3 l.length c3, .int .u64 ver] 28)).alloc (.cells #[.int .u64 t.f0, .int .u64 t.f1] 30)).alloc (.cells #[.int .u64 0, .int .u64 0, .bool false] 68)) l (isDoneT t) from fun W x cs hb _ hK => by
    obtain rfl := doneCells hK
    exact shardOver1 (w.heap.size + 1) t x W ((hb.cell (World.block_lt_of_cell? _ _ h4)).trans h4) ((hb.cell (World.block_lt_of_cell? _ _ h5)).trans h5))
  have HIX := Aside0.mk (IndexFuncDone k68 rfl (isDoneT t) 81 #[.pointer (some ⟨w.heap.size + 1, 0, none⟩)] (enters_of Try.func81 (by kernel_rfl) rfl) (.slice A3 l.length c3) l _ ((show Sl k68 w (.slice A3 l.length c3) l from ⟨A3, c3, rfl, hc, hr⟩).below HB0.out) HP.out)
  have H3 := Aside0.mk h3
  have HBX := Aside0.mk hbx
  have HRW := Aside0.mk (Kd.C_below hr HB0.out)
  have HOV : Aside0 (overV l t = if 0 ≤ findI (isDoneT t) l then l[(findI (isDoneT t) l).toNat]! else ⟨⟨0, 0⟩, false⟩) := ⟨rfl⟩
  have hm : l.length ≤ 9223372036854775807 := hr.2.1
  generalize overV l t = ov at *
  unfold shv
  clear hr hc h3 h4 h5 hbx HP hB3
  by_cases hf : 0 ≤ findI (isDoneT t) l
  · obtain ⟨ii, hii, hfi⟩ := findI_range0 _ _ hf
    have HOV2 : Aside0 (ov = l[ii]!) := ⟨by rw [HOV.out, if_pos hf, hfi]; rfl⟩
    rw [decide_eq_true hf]
    rw [hfi] at HIX
    clear hf hfi HOV
    obtain ⟨lb, lo, hA, hd0, hd1, hd2⟩ := doneRow HRW.out ii hii
    have HD := Aside0.mk (And.intro hd0 (And.intro hd1 hd2))
    rw [← HOV2.out] at HD
    have hiz : (0 : Int) ≤ (ii : Int) := by omega
    have hiz2 : (ii : Int) < (l.length : Int) := by omega
    subst hA
    clear hd0 hd1 hd2 HOV2
    obtain ⟨⟨oa, oi⟩, oc⟩ := ov
    dsimp only at HD ⊢
    go_enter Try.func51, Try.ntmps51
    go_wp2_with (go_at_call 80; refine HIX.out.mono ?_; rintro e w2 ⟨rfl, hb2⟩; have HB2 := Aside0.mk hb2; have hx3 := (hb2.cell (World.block_lt_of_cell? _ _ H3.out)).trans H3.out; have hx4 := (hb2.block _ (Array.getElem?_eq_some_iff.1 HBX.out).1).trans HBX.out; have HX4 := Aside0.mk hx4; have hy0 : w2.cell? ⟨w.heap.size + 1 + 1, 0, none⟩ = some (.int .u64 0) := cell_row (cs := [.int .u64 0, .int .u64 0, .bool false]) hx4 0; have hy1 : w2.cell? ⟨w.heap.size + 1 + 1, 1, none⟩ = some (.int .u64 0) := cell_row (cs := [.int .u64 0, .int .u64 0, .bool false]) hx4 1; have hy2 : w2.cell? ⟨w.heap.size + 1 + 1, 2, none⟩ = some (.bool false) := cell_row (cs := [.int .u64 0, .int .u64 0, .bool false]) hx4 2; have hy3 : w2.frozen? ⟨w.heap.size + 1 + 1, 0, none⟩ = false := frozen_row hx4 0; have hy4 : w2.frozen? ⟨w.heap.size + 1 + 1, 1, none⟩ = false := frozen_row hx4 1; have hy5 : w2.frozen? ⟨w.heap.size + 1 + 1, 2, none⟩ = false := frozen_row hx4 2; clear hx4; have hq0 := (hb2.cell (World.block_lt_of_cell? _ _ HD.out.1)).trans HD.out.1; have hq1 := (hb2.cell (World.block_lt_of_cell? _ _ HD.out.2.1)).trans HD.out.2.1; have hq2 := (hb2.cell (World.block_lt_of_cell? _ _ HD.out.2.2)).trans HD.out.2.2; clear hb2)
    refine bodyPost_ret (results_ct_u rfl _ _ (w.heap.size + 1 + 1) 68 #[.int .u64 oa, .int .u64 oi, .bool oc] (0, 0) _ (.bool true) rfl (blk_put (cs := #[.int .u64 oa, .int .u64 oi, .bool false]) (blk_put (cs := #[.int .u64 oa, .int .u64 0, .bool false]) (blk_put (cs := #[.int .u64 0, .int .u64 0, .bool false]) HX4.out 0 _ rfl) 1 _ rfl) 2 _ rfl) Try.underlying68 rfl (by kernel_rfl) rfl) rfl ?_
    exact ⟨rfl, (((HB0.out.trans (HB2.out.mono HB0.out.size)).setCell (p := ⟨w.heap.size + 1 + 1, 0, none⟩) (by show w.heap.size ≤ w.heap.size + 1 + 1; omega) _).setCell (p := ⟨w.heap.size + 1 + 1, 1, none⟩) (by show w.heap.size ≤ w.heap.size + 1 + 1; omega) _).setCell (p := ⟨w.heap.size + 1 + 1, 2, none⟩) (by show w.heap.size ≤ w.heap.size + 1 + 1; omega) _⟩
  · have hneg := findI_neg0 _ _ hf
    have HOV2 : Aside0 (ov = ⟨⟨0, 0⟩, false⟩) := ⟨by rw [HOV.out, if_neg hf]⟩
    rw [decide_eq_false hf, HOV2.out]
    rw [hneg] at HIX
    clear hf hneg HOV HOV2
    dsimp only
    go_enter Try.func51, Try.ntmps51
    go_wp2_with (go_at_call 80; refine HIX.out.mono ?_; rintro e w2 ⟨rfl, hb2⟩; have HB2 := Aside0.mk hb2; have hx3 := (hb2.cell (World.block_lt_of_cell? _ _ H3.out)).trans H3.out; have hx4 := (hb2.block _ (Array.getElem?_eq_some_iff.1 HBX.out).1).trans HBX.out; have HX4 := Aside0.mk hx4; have hy0 : w2.cell? ⟨w.heap.size + 1 + 1, 0, none⟩ = some (.int .u64 0) := cell_row (cs := [.int .u64 0, .int .u64 0, .bool false]) hx4 0; have hy1 : w2.cell? ⟨w.heap.size + 1 + 1, 1, none⟩ = some (.int .u64 0) := cell_row (cs := [.int .u64 0, .int .u64 0, .bool false]) hx4 1; have hy2 : w2.cell? ⟨w.heap.size + 1 + 1, 2, none⟩ = some (.bool false) := cell_row (cs := [.int .u64 0, .int .u64 0, .bool false]) hx4 2; have hy3 : w2.frozen? ⟨w.heap.size + 1 + 1, 0, none⟩ = false := frozen_row hx4 0; have hy4 : w2.frozen? ⟨w.heap.size + 1 + 1, 1, none⟩ = false := frozen_row hx4 1; have hy5 : w2.frozen? ⟨w.heap.size + 1 + 1, 2, none⟩ = false := frozen_row hx4 2; clear hx4; clear hb2)
    refine bodyPost_ret (results_ct_u rfl _ _ (w.heap.size + 1 + 1) 68 #[.int .u64 0, .int .u64 0, .bool false] (0, 0) _ (.bool false) rfl (blk_put (cs := #[.int .u64 0, .int .u64 0, .bool false]) (blk_put (cs := #[.int .u64 0, .int .u64 0, .bool false]) (blk_put (cs := #[.int .u64 0, .int .u64 0, .bool false]) HX4.out 0 _ rfl) 1 _ rfl) 2 _ rfl) Try.underlying68 rfl (by kernel_rfl) rfl) rfl ?_
    exact ⟨rfl, (((HB0.out.trans (HB2.out.mono HB0.out.size)).setCell (p := ⟨w.heap.size + 1 + 1, 0, none⟩) (by show w.heap.size ≤ w.heap.size + 1 + 1; omega) _).setCell (p := ⟨w.heap.size + 1 + 1, 1, none⟩) (by show w.heap.size ≤ w.heap.size + 1 + 1; omega) _).setCell (p := ⟨w.heap.size + 1 + 1, 2, none⟩) (by show w.heap.size ≤ w.heap.size + 1 + 1; omega) _⟩
end Go.Proofs.Ytmcgcdpiceikeaa.PAll
end
section
/- shard.keys. -/
namespace Go.Proofs.Ytmcgcdpiceikeaa.PAll
open Go.RowKit Go.WideMaps Go.Maps Go.Proofs.YtmcgcdpiceikeaaW.PrintWords Go.Proofs.YtmcgcdpiceikeaaW.PrintMore Go.Proofs.Ytmcgcdpiceikeaa
set_option linter.unusedVariables false
theorem cell_grown_u {w w' : World} {row : Option Nat} {b i : Nat} {v : Value} (h : w.cell? ⟨b, i, none⟩ = some v) (hg : w.grownBy w' row) (hne : some b ≠ row) : w'.cell? ⟨b, i, none⟩ = some v := by
  have := hg.block b (World.block_lt_of_cell? _ _ h) hne
  unfold World.cell? at *
  dsimp only at *
  rw [this]
  exact h
def addPuts (acc : List ByteArray) (l : List S54) : List ByteArray := l.foldl (fun a p => if p.f2 then a else withV a p.f0) acc
theorem addPuts_step (acc : List ByteArray) (l : List S54) (j : Nat) (hj : j < l.length) : addPuts acc (l.take (j + 1)) = if (l[j]!).f2 then addPuts acc (l.take j) else withV (addPuts acc (l.take j)) (l[j]!).f0 := by
  unfold addPuts
  rw [List.take_succ_eq_append_getElem hj, List.foldl_append, getElem!_pos l j hj]
  rfl
theorem withV_out {l : List ByteArray} {k : ByteArray} (h : ¬ k ∈ l) : withV l k = l ++ [k] := if_neg h
theorem withV_in {l : List ByteArray} {k : ByteArray} (h : k ∈ l) : withV l k = l := if_pos h
theorem cellOld {w : World} {b i : Nat} {v : Value} {o : Obj} (h : w.cell? ⟨b, i, none⟩ = some v) : (w.alloc o).cell? ⟨b, i, none⟩ = some v := cell_grown_u h (World.grownBy_alloc w o none) (by simp)
set_option maxRecDepth 100000 in
set_option maxHeartbeats 4000000 in
theorem shardKeys1 (Bs mb n : Nat) (A : Option Addr) (c : Nat) (l : List S54) (acc : List ByteArray) (w0 w : World) (hr : Kd.C k54 w0 A l.length l) (hb : Below w0.heap.size w0 w) (hmb : w0.heap.size ≤ mb) (hne : Bs ≠ mb) (hset : w.cell? ⟨Bs, 0, none⟩ = some (.map (some mb))) (hm : KeySet w mb n acc)
    (hn : n + l.length ≤ maxLen) (hks : ∀ p ∈ l, p.f0.size ≤ maxLen) :
    Calls Try.prog 79 #[.slice A l.length c, .pointer (some ⟨Bs, 0, none⟩)] w fun e w' => (∃ v, e = .returned v) ∧ KeySet w' mb (n + l.length) (addPuts acc l) ∧ w.grownBy w' (some mb) := by
  have HR := Aside0.mk hr
  have HB := Aside0.mk hb
  have HMB := Aside0.mk hmb
  have HSET := Aside0.mk hset
  have HM := Aside0.mk hm
  have HN := Aside0.mk hn
  have HKS := Aside0.mk hks
  have HNE := Aside0.mk hne
  clear hr hb hmb hset hm hn hks hne
  go_enter Try.func79, Try.ntmps79
  go_wp2
  go_loopg [8] l.length (fun gg s8 wr => ∃ jj : Nat, jj ≤ l.length ∧ l.length - jj ≤ gg ∧ s8 = .int .i64 jj ∧ Aside0 (w.grownBy wr (some mb)) ∧ Aside0 (KeySet wr mb (n + jj) (addPuts acc (l.take jj))))
  case atStart => exact ⟨0, Nat.zero_le _, by omega, rfl, ⟨World.grownBy.refl _ _⟩, ⟨HM.out⟩⟩
  case round =>
    obtain ⟨jj, hjj, hgk, rfl, BG, BM⟩ := hrel
    have hsetr := cell_grown_u HSET.out BG.out (fun e => HNE.out (Option.some.inj e))
    have hll : l.length ≤ 9223372036854775807 := HR.out.2.1
    by_cases hlt : jj < l.length
    · have hltz : (jj : Int) < (l.length : Int) := by omega
      obtain ⟨b, o, rfl, hrow⟩ := C_row (Kd.C_below HR.out (HB.out.grown BG.out HB.out.size (fun k e => by cases e; exact HMB.out))) (by decide) (by omega)
      obtain ⟨cs, hcs, hK, hrg⟩ := hrow jj hlt
      obtain rfl := flat54.openK _ _ _ hK
      have hc0_ : wr.cell? ⟨b, o + jj * 3, none⟩ = some (.string (l[jj]!).f0) := hrg 0 _ rfl
      have hc1_ : wr.cell? ⟨b, o + jj * 3 + 1, none⟩ = some (.string (l[jj]!).f1) := hrg 1 _ rfl
      have hc2_ : wr.cell? ⟨b, o + jj * 3 + 2, none⟩ = some (.bool (l[jj]!).f2) := hrg 2 _ rfl
      have HS := Aside0.mk (addPuts_step acc l jj hlt)
      have HKX : Aside0 ((l[jj]!).f0.size ≤ maxLen) := ⟨HKS.out _ (by rw [getElem!_pos l jj hlt]; exact List.getElem_mem _)⟩
      have HML := Aside0.mk BM.out.lt
      clear hrow hrg hK hcs
      generalize l[jj]! = x at *
      obtain ⟨xk, xv, xg⟩ := x
      dsimp only at *
      have HBX := Aside0.mk (heap_alloc_new wr (.cells #[.string xk, .string xv, .bool xg] 54))
      have HM1 := Aside0.mk (BM.out.grown (World.grownBy_alloc wr (.cells #[.string xk, .string xv, .bool xg] 54) none) (by simp))
      have HG1 := Aside0.mk (BG.out.trans (World.grownBy_alloc wr (.cells #[.string xk, .string xv, .bool xg] 54) (some mb)))
      have hlk := HM1.out.lookup Try.underlying113 xk HKX.out
      have hset1 := cellOld (o := .cells #[.string xk, .string xv, .bool xg] 54) hsetr
      clear hsetr
      by_cases hin : xk ∈ addPuts acc (l.take jj)
      · rw [decide_eq_true hin] at hlk
        have HIN := Aside0.mk hin
        clear hin
        cases xg with
        | false =>
          go_wp2_with (at_mapUpdate; refine wpList_put_key _ rfl _ _ _ 113 rfl Try.underlying113 rfl HM1.out (by have := HN.out; omega) xk rfl rfl HKX.out ?_; intro w2 hM2 hg2; have HM2 := Aside0.mk hM2; have HG2 := Aside0.mk hg2; have hset2 := cell_grown_u hset1 hg2 (fun e => HNE.out (Option.some.inj e)); have hbx2 := (hg2.block wr.heap.size (by simp) (fun e => by have := Option.some.inj e; have := HML.out; omega)).trans HBX.out; have hx0 : w2.cell? ⟨wr.heap.size, 0, none⟩ = some (.string xk) := cell_row (cs := [.string xk, .string xv, .bool false]) hbx2 0; have hx1 : w2.cell? ⟨wr.heap.size, 1, none⟩ = some (.string xv) := cell_row (cs := [.string xk, .string xv, .bool false]) hbx2 1; have hx2 : w2.cell? ⟨wr.heap.size, 2, none⟩ = some (.bool false) := cell_row (cs := [.string xk, .string xv, .bool false]) hbx2 2; clear hM2 hg2 hbx2)
          go_roundg (l.length - (jj + 1))
          case measure => omega
          case rel => exact ⟨jj + 1, by omega, by omega, by go_num, ⟨HG1.out.trans HG2.out⟩, ⟨by rw [HS.out]; have h := HM2.out; first | exact h | (rw [withV_in HIN.out] at h; exact h)⟩⟩
        | true =>
          go_wp2_with (at_mapUpdate; refine wpList_put_key _ rfl _ _ _ 113 rfl Try.underlying113 rfl HM1.out (by have := HN.out; omega) xk rfl rfl HKX.out ?_; intro w2 hM2 hg2; have HM2 := Aside0.mk hM2; have HG2 := Aside0.mk hg2; have hset2 := cell_grown_u hset1 hg2 (fun e => HNE.out (Option.some.inj e)); have hbx2 := (hg2.block wr.heap.size (by simp) (fun e => by have := Option.some.inj e; have := HML.out; omega)).trans HBX.out; have hx0 : w2.cell? ⟨wr.heap.size, 0, none⟩ = some (.string xk) := cell_row (cs := [.string xk, .string xv, .bool true]) hbx2 0; have hx1 : w2.cell? ⟨wr.heap.size, 1, none⟩ = some (.string xv) := cell_row (cs := [.string xk, .string xv, .bool true]) hbx2 1; have hx2 : w2.cell? ⟨wr.heap.size, 2, none⟩ = some (.bool true) := cell_row (cs := [.string xk, .string xv, .bool true]) hbx2 2; clear hM2 hg2 hbx2)
          go_roundg (l.length - (jj + 1))
          case measure => omega
          case rel => exact ⟨jj + 1, by omega, by omega, by go_num, ⟨HG1.out.trans HG2.out⟩, ⟨by rw [HS.out]; have h := HM2.out; first | exact h | (rw [withV_in HIN.out] at h; exact h)⟩⟩
      · rw [decide_eq_false hin] at hlk
        have HIN := Aside0.mk hin
        clear hin
        cases xg with
        | false =>
          go_wp2_with (at_mapUpdate; refine wpList_put_key _ rfl _ _ _ 113 rfl Try.underlying113 rfl HM1.out (by have := HN.out; omega) xk rfl rfl HKX.out ?_; intro w2 hM2 hg2; have HM2 := Aside0.mk hM2; have HG2 := Aside0.mk hg2; have hset2 := cell_grown_u hset1 hg2 (fun e => HNE.out (Option.some.inj e)); have hbx2 := (hg2.block wr.heap.size (by simp) (fun e => by have := Option.some.inj e; have := HML.out; omega)).trans HBX.out; have hx0 : w2.cell? ⟨wr.heap.size, 0, none⟩ = some (.string xk) := cell_row (cs := [.string xk, .string xv, .bool false]) hbx2 0; have hx1 : w2.cell? ⟨wr.heap.size, 1, none⟩ = some (.string xv) := cell_row (cs := [.string xk, .string xv, .bool false]) hbx2 1; have hx2 : w2.cell? ⟨wr.heap.size, 2, none⟩ = some (.bool false) := cell_row (cs := [.string xk, .string xv, .bool false]) hbx2 2; clear hM2 hg2 hbx2)
          go_roundg (l.length - (jj + 1))
          case measure => omega
          case rel => exact ⟨jj + 1, by omega, by omega, by go_num, ⟨HG1.out.trans HG2.out⟩, ⟨by rw [HS.out]; exact HM2.out⟩⟩
        | true =>
          go_wp2_with (first
            | (at_mapUpdate; refine wpList_put_key _ rfl _ _ _ 113 rfl Try.underlying113 rfl HM1.out (by have := HN.out; omega) xk rfl rfl HKX.out ?_; intro w2 hM2 hg2; have HM2 := Aside0.mk hM2; have HG2 := Aside0.mk hg2; have hset2 := cell_grown_u hset1 hg2 (fun e => HNE.out (Option.some.inj e)); have hbx2 := (hg2.block wr.heap.size (by simp) (fun e => by have := Option.some.inj e; have := HML.out; omega)).trans HBX.out; have hx0 : w2.cell? ⟨wr.heap.size, 0, none⟩ = some (.string xk) := cell_row (cs := [.string xk, .string xv, .bool true]) hbx2 0; have hx1 : w2.cell? ⟨wr.heap.size, 1, none⟩ = some (.string xv) := cell_row (cs := [.string xk, .string xv, .bool true]) hbx2 1; have hx2 : w2.cell? ⟨wr.heap.size, 2, none⟩ = some (.bool true) := cell_row (cs := [.string xk, .string xv, .bool true]) hbx2 2; clear hM2 hg2 hbx2)
            | (have HMW := Aside0.mk HM2.out; rw [withV_out HIN.out] at HMW; ((with_reducible refine gate_builtin (b := .delete) (xs := #[.tmp 25, .tmp 27]) rfl ?_); refine wpList_del_key _ rfl _ _ 113 rfl Try.underlying113 rfl xk HMW.out rfl HKX.out ?_; intro w3 hM3 hg3; have HM3 := Aside0.mk hM3; have HG3 := Aside0.mk hg3; clear hM3 hg3)))
          go_roundg (l.length - (jj + 1))
          case measure => omega
          case rel => exact ⟨jj + 1, by omega, by omega, by go_num, ⟨(HG1.out.trans HG2.out).trans HG3.out⟩, ⟨by rw [HS.out]; exact HM3.out⟩⟩
    · have hltz : ¬ (jj : Int) < (l.length : Int) := by omega
      obtain rfl : jj = l.length := by omega
      go_wp2
      refine bodyPost_end (results_none rfl _ _ _) rfl ?_
      exact ⟨⟨_, rfl⟩, by have := BM.out; rwa [List.take_length] at this, BG.out⟩
end Go.Proofs.Ytmcgcdpiceikeaa.PAll
end
