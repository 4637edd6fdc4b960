/- Joined texts of the claim ShardRight (part 23): contracts of functions and plain laws. -/
import Derived.Test.YtmcgcdpiceikeaaJShardRight19
import Derived.Test.YtmcgcdpiceikeaaJShardRight22
import Derived.BigRegion
import Derived.Test.YtmcgcdpiceikeaaJShardRight14
section
/- shard.no; how shards and answers are read. -/
namespace Go.Proofs.Ytmcgcdpiceikeaa.PAll
open Go.RowKit Go.Proofs.YtmcgcdpiceikeaaW.PrintWords Go.Proofs.YtmcgcdpiceikeaaW.PrintMore Go.Proofs.Ytmcgcdpiceikeaa
set_option linter.unusedVariables false
structure Shd where
  rows : List S50
  holds : List S75
  opens : List S48
  dones : List S68
  ver : Int
structure Ans where
  err : Int
  val : ByteArray
  ver : Int
  found : Bool
  commit : Bool
def ansV (a : Ans) : Value := .agg #[.int .i64 a.err, .string a.val, .int .u64 a.ver, .bool a.found, .bool a.commit]
def errA (e : Int) : Ans := ⟨e, ⟨#[]⟩, 0, false, false⟩
def ShdV (w : World) (v : Value) (s : Shd) : Prop := ∃ v0 v1 v2 v3, v = .agg #[v0, v1, v2, v3, .int .u64 s.ver] ∧ Sl k50 w v0 s.rows ∧ Sl k75 w v1 s.holds ∧ Sl k48 w v2 s.opens ∧ Sl k68 w v3 s.dones
theorem ShdV.below {w w' : World} {v : Value} {s : Shd} (h : ShdV w v s) (hb : Below w.heap.size w w') : ShdV w' v s := by
  obtain ⟨v0, v1, v2, v3, rfl, h0, h1, h2, h3⟩ := h
  exact ⟨v0, v1, v2, v3, rfl, h0.below hb, h1.below hb, h2.below hb, h3.below hb⟩
def DoPost (w : World) (r : Shd × Ans) (e : Ending) (w' : World) : Prop := ∃ v, e = .returned (.tuple #[v, ansV r.2]) ∧ ShdV w' v r.1 ∧ Below w.heap.size w w'
theorem results_c2 {P : Program} {fn : Func} {p q : Tmp} {ty ty2 : TypeId} (h : fn.results = #[.cell p ty, .cell q ty2]) (tmps : Array Value) (w : World) (g g2 : Nat) (t t2 : TypeId) (cs cs2 : Array Value) (fr fr2 : Nat × Nat) (d d2 : TypeDesc)
    (hp : tmps.getD p undef = .pointer (some ⟨g, 0, none⟩)) (hg : w.heap[g]? = some (.cells cs t fr))
    (hu : P.underlying ty = some d) (hd : (match d with | .struct _ | .array _ _ => true | _ => false) = true) (hi : (P.info? ty).map (·.size) = some cs.size)
    (hp2 : tmps.getD q undef = .pointer (some ⟨g2, 0, none⟩)) (hg2 : w.heap[g2]? = some (.cells cs2 t2 fr2))
    (hu2 : P.underlying ty2 = some d2) (hd2 : (match d2 with | .struct _ | .array _ _ => true | _ => false) = true) (hi2 : (P.info? ty2).map (·.size) = some cs2.size) :
    (results fn tmps).run P w = .ok (.tuple #[.agg cs, .agg cs2]) w := by
  have hp' : tmps[p]?.getD undef = .pointer (some ⟨g, 0, none⟩) := by simpa using hp
  have hp2' : tmps[q]?.getD undef = .pointer (some ⟨g2, 0, none⟩) := by simpa using hp2
  simp [results, h, hp', hp2', asAddr, run_loadVar_row w g t ty cs fr d hg hu hd hi, run_loadVar_row w g2 t2 ty2 cs2 fr2 d2 hg2 hu2 hd2 hi2]
theorem alloc3m (w : World) (o1 o2 o3 : Obj) : (((w.alloc o1).alloc o2).alloc o3).heap[w.heap.size + 1]? = some o2 := by
  have h := heap_alloc_new (w.alloc o1) o2
  rw [World.size_alloc] at h
  have h3 := (World.grownBy_alloc ((w.alloc o1).alloc o2) o3 none).block (w.heap.size + 1) (by simp) (by simp)
  rw [h3, h]
set_option maxRecDepth 100000 in
set_option maxHeartbeats 4000000 in
theorem shardNo_calls (A0 : Option Addr) (n0 c0 : Nat) (A1 : Option Addr) (n1 c1 : Nat) (A2 : Option Addr) (n2 c2 : Nat) (A3 : Option Addr) (n3 c3 : Nat) (ver e0 : Int) (w : World) :
    Calls Try.prog 24 #[.agg (shv A0 n0 c0 A1 n1 c1 A2 n2 c2 A3 n3 c3 ver), .int .i64 e0] w fun e w' => e = .returned (.tuple #[.agg (shv A0 n0 c0 A1 n1 c1 A2 n2 c2 A3 n3 c3 ver), ansV (errA e0)]) ∧ Below w.heap.size w w' := by
  unfold shv
  go_enter Try.func24, Try.ntmps24
  go_wp2
  refine bodyPost_ret (results_c2 rfl _ _ (w.heap.size + 1) (w.heap.size + 1 + 1) 28 38 #[.slice A0 n0 c0, .slice A1 n1 c1, .slice A2 n2 c2, .slice A3 n3 c3, .int .u64 ver] #[.int .i64 e0, .string ⟨#[]⟩, .int .u64 0, .bool false, .bool false] (0, 0) (0, 0) _ _ rfl (alloc3m _ _ _ _) Try.underlying28 rfl (by kernel_rfl) rfl (alloc3 _ _ _ _) Try.underlying38 rfl (by kernel_rfl)) rfl ?_
  exact ⟨rfl, (((Below.refl w.heap.size w).alloc (Nat.le_refl _) _).alloc (by simp) _).alloc (by simp; omega) _⟩
end Go.Proofs.Ytmcgcdpiceikeaa.PAll
end
section
/- shard.asks: its early ends. -/
namespace Go.Proofs.Ytmcgcdpiceikeaa.PAll
open Go.RowKit Go.Proofs.YtmcgcdpiceikeaaW.PrintWords Go.Proofs.YtmcgcdpiceikeaaW.PrintMore Go.Proofs.Ytmcgcdpiceikeaa
set_option linter.unusedVariables false
theorem alloc4 (w : World) (o1 o2 o3 o4 : Obj) : ((((w.alloc o1).alloc o2).alloc o3).alloc o4).heap[w.heap.size]? = some o1 ∧ ((((w.alloc o1).alloc o2).alloc o3).alloc o4).heap[w.heap.size + 1]? = some o2 ∧ ((((w.alloc o1).alloc o2).alloc o3).alloc o4).heap[w.heap.size + 1 + 1]? = some o3 ∧ ((((w.alloc o1).alloc o2).alloc o3).alloc o4).heap[w.heap.size + 1 + 1 + 1]? = some o4 := by
  have h4 := heap_alloc_new (((w.alloc o1).alloc o2).alloc o3) o4
  rw [World.size_alloc, World.size_alloc, World.size_alloc] at h4
  have g := World.grownBy_alloc (((w.alloc o1).alloc o2).alloc o3) o4 none
  exact ⟨(g.block _ (by rw [World.size_alloc, World.size_alloc, World.size_alloc]; omega) (by simp)).trans (alloc3b w o1 o2 o3), (g.block _ (by rw [World.size_alloc, World.size_alloc, World.size_alloc]; omega) (by simp)).trans (alloc3m w o1 o2 o3), (g.block _ (by rw [World.size_alloc, World.size_alloc, World.size_alloc]; omega) (by simp)).trans (alloc3 w o1 o2 o3), h4⟩
theorem cells_5 {w : World} {b : Nat} {t : TypeId} {a0 a1 a2 a3 a4 : Value} (h : w.heap[b]? = some (.cells #[a0, a1, a2, a3, a4] t (0, 0))) : w.cell? ⟨b, 0, none⟩ = some a0 ∧ w.cell? ⟨b, 1, none⟩ = some a1 ∧ w.cell? ⟨b, 2, none⟩ = some a2 ∧ w.cell? ⟨b, 3, none⟩ = some a3 ∧ w.cell? ⟨b, 4, none⟩ = some a4 :=
  ⟨cell_row (cs := [a0, a1, a2, a3, a4]) h 0, cell_row (cs := [a0, a1, a2, a3, a4]) h 1, cell_row (cs := [a0, a1, a2, a3, a4]) h 2, cell_row (cs := [a0, a1, a2, a3, a4]) h 3, cell_row (cs := [a0, a1, a2, a3, a4]) h 4⟩
theorem cells_3 {w : World} {b : Nat} {t : TypeId} {a0 a1 a2 : Value} (h : w.heap[b]? = some (.cells #[a0, a1, a2] t (0, 0))) : w.cell? ⟨b, 0, none⟩ = some a0 ∧ w.cell? ⟨b, 1, none⟩ = some a1 ∧ w.cell? ⟨b, 2, none⟩ = some a2 :=
  ⟨cell_row (cs := [a0, a1, a2]) h 0, cell_row (cs := [a0, a1, a2]) h 1, cell_row (cs := [a0, a1, a2]) h 2⟩
theorem cells_7 {w : World} {b : Nat} {t : TypeId} {a0 a1 a2 a3 a4 a5 a6 : Value} (h : w.heap[b]? = some (.cells #[a0, a1, a2, a3, a4, a5, a6] t (0, 0))) : w.cell? ⟨b, 0, none⟩ = some a0 ∧ w.cell? ⟨b, 1, none⟩ = some a1 ∧ w.cell? ⟨b, 2, none⟩ = some a2 ∧ w.cell? ⟨b, 3, none⟩ = some a3 ∧ w.cell? ⟨b, 4, none⟩ = some a4 ∧ w.cell? ⟨b, 5, none⟩ = some a5 ∧ w.cell? ⟨b, 6, none⟩ = some a6 :=
  ⟨cell_row (cs := [a0, a1, a2, a3, a4, a5, a6]) h 0, cell_row (cs := [a0, a1, a2, a3, a4, a5, a6]) h 1, cell_row (cs := [a0, a1, a2, a3, a4, a5, a6]) h 2, cell_row (cs := [a0, a1, a2, a3, a4, a5, a6]) h 3, cell_row (cs := [a0, a1, a2, a3, a4, a5, a6]) h 4, cell_row (cs := [a0, a1, a2, a3, a4, a5, a6]) h 5, cell_row (cs := [a0, a1, a2, a3, a4, a5, a6]) h 6⟩
theorem froz_5 {w : World} {b : Nat} {t : TypeId} {cs : Array Value} (h : w.heap[b]? = some (.cells cs t (0, 0))) : w.frozen? ⟨b, 0, none⟩ = false ∧ w.frozen? ⟨b, 1, none⟩ = false ∧ w.frozen? ⟨b, 2, none⟩ = false ∧ w.frozen? ⟨b, 3, none⟩ = false ∧ w.frozen? ⟨b, 4, none⟩ = false :=
  ⟨frozen_row h 0, frozen_row h 1, frozen_row h 2, frozen_row h 3, frozen_row h 4⟩
theorem stay {w w' : World} {q b : Nat} {o : Obj} (hb : Below q w w') (h : w.heap[b]? = some o) (hq : b < q) : w'.heap[b]? = some o := (hb.block b hq).trans h
@[reducible] def put5 (w : World) (g : Nat) (v0 v1 v2 v3 v4 : Value) : World := ((((w.setCell ⟨g, 0, none⟩ v0).setCell ⟨g, 1, none⟩ v1).setCell ⟨g, 2, none⟩ v2).setCell ⟨g, 3, none⟩ v3).setCell ⟨g, 4, none⟩ v4
theorem put5_at {w : World} {g : Nat} {t : TypeId} {a0 a1 a2 a3 a4 : Value} (h : w.heap[g]? = some (.cells #[a0, a1, a2, a3, a4] t (0, 0))) (v0 v1 v2 v3 v4 : Value) : (put5 w g v0 v1 v2 v3 v4).heap[g]? = some (.cells #[v0, v1, v2, v3, v4] t (0, 0)) :=
  blk_put (cs := #[v0, v1, v2, v3, a4]) (blk_put (cs := #[v0, v1, v2, a3, a4]) (blk_put (cs := #[v0, v1, a2, a3, a4]) (blk_put (cs := #[v0, a1, a2, a3, a4]) (blk_put (cs := #[a0, a1, a2, a3, a4]) h 0 _ rfl) 1 _ rfl) 2 _ rfl) 3 _ rfl) 4 _ rfl
theorem put5_other {w : World} {g b : Nat} {o : Obj} (hne : b ≠ g) (h : w.heap[b]? = some o) (v0 v1 v2 v3 v4 : Value) : (put5 w g v0 v1 v2 v3 v4).heap[b]? = some o := by
  unfold put5
  rw [RowKit.Below.heap_setCell _ _ _ _ hne, RowKit.Below.heap_setCell _ _ _ _ hne, RowKit.Below.heap_setCell _ _ _ _ hne, RowKit.Below.heap_setCell _ _ _ _ hne, RowKit.Below.heap_setCell _ _ _ _ hne]
  exact h
theorem put5_below {q : Nat} {w0 w : World} {g : Nat} (h : Below q w0 w) (hq : q ≤ g) (v0 v1 v2 v3 v4 : Value) : Below q w0 (put5 w g v0 v1 v2 v3 v4) :=
  ((((h.setCell (p := ⟨g, 0, none⟩) hq _).setCell (p := ⟨g, 1, none⟩) hq _).setCell (p := ⟨g, 2, none⟩) hq _).setCell (p := ⟨g, 3, none⟩) hq _).setCell (p := ⟨g, 4, none⟩) hq _
theorem shardInfo : (Try.prog.info? 28).map (·.size) = some 5 := by kernel_rfl
theorem answerInfo : (Try.prog.info? 38).map (·.size) = some 5 := by kernel_rfl
/-- What a function of two results in cells hands back. -/
theorem twoBoxes {fn : Func} {a : Act} {w : World} {g g2 : Nat} {p q : Tmp} {a0 a1 a2 a3 a4 b0 b1 b2 b3 b4 v0 v1 v2 v3 v4 u0 u1 u2 u3 u4 : Value} {R : Ending → World → Prop} (hres : fn.results = #[.cell p 28, .cell q 38]) (hd : a.defers = [])
    (hp : a.tmps.getD p undef = .pointer (some ⟨g, 0, none⟩)) (hq : a.tmps.getD q undef = .pointer (some ⟨g2, 0, none⟩)) (h1 : w.heap[g]? = some (.cells #[a0, a1, a2, a3, a4] 28 (0, 0))) (h2 : w.heap[g2]? = some (.cells #[b0, b1, b2, b3, b4] 38 (0, 0))) (hne : g ≠ g2)
    (hR : R (.returned (.tuple #[.agg #[v0, v1, v2, v3, v4], .agg #[u0, u1, u2, u3, u4]])) (put5 (put5 w g v0 v1 v2 v3 v4) g2 u0 u1 u2 u3 u4)) : bodyPost Try.prog fn R .ret a (put5 (put5 w g v0 v1 v2 v3 v4) g2 u0 u1 u2 u3 u4) := by
  have e1 : (put5 (put5 w g v0 v1 v2 v3 v4) g2 u0 u1 u2 u3 u4).heap[g]? = some (.cells #[v0, v1, v2, v3, v4] 28 (0, 0)) := put5_other hne (put5_at h1 _ _ _ _ _) _ _ _ _ _
  have e2 : (put5 (put5 w g v0 v1 v2 v3 v4) g2 u0 u1 u2 u3 u4).heap[g2]? = some (.cells #[u0, u1, u2, u3, u4] 38 (0, 0)) := put5_at (put5_other (Ne.symm hne) h2 _ _ _ _ _) _ _ _ _ _
  generalize put5 (put5 w g v0 v1 v2 v3 v4) g2 u0 u1 u2 u3 u4 = W at *
  exact bodyPost_ret (results_c2 hres _ _ g g2 28 38 #[v0, v1, v2, v3, v4] #[u0, u1, u2, u3, u4] (0, 0) (0, 0) _ _ hp e1 Try.underlying28 rfl shardInfo hq e2 Try.underlying38 rfl answerInfo) hd hR
theorem drewHeap (W : World) : W.drew.heap = W.heap := rfl
theorem twoBoxesD {fn : Func} {a : Act} {w : World} {g g2 : Nat} {p q : Tmp} {a0 a1 a2 a3 a4 b0 b1 b2 b3 b4 v0 v1 v2 v3 v4 u0 u1 u2 u3 u4 : Value} {R : Ending → World → Prop} (hres : fn.results = #[.cell p 28, .cell q 38]) (hd : a.defers = [])
    (hp : a.tmps.getD p undef = .pointer (some ⟨g, 0, none⟩)) (hq : a.tmps.getD q undef = .pointer (some ⟨g2, 0, none⟩)) (h1 : w.heap[g]? = some (.cells #[a0, a1, a2, a3, a4] 28 (0, 0))) (h2 : w.heap[g2]? = some (.cells #[b0, b1, b2, b3, b4] 38 (0, 0))) (hne : g ≠ g2)
    (hR : R (.returned (.tuple #[.agg #[v0, v1, v2, v3, v4], .agg #[u0, u1, u2, u3, u4]])) (put5 (put5 w g v0 v1 v2 v3 v4) g2 u0 u1 u2 u3 u4).drew) : bodyPost Try.prog fn R .ret a (put5 (put5 w g v0 v1 v2 v3 v4) g2 u0 u1 u2 u3 u4).drew := by
  have e1 : (put5 (put5 w g v0 v1 v2 v3 v4) g2 u0 u1 u2 u3 u4).drew.heap[g]? = some (.cells #[v0, v1, v2, v3, v4] 28 (0, 0)) := by rw [drewHeap]; exact put5_other hne (put5_at h1 _ _ _ _ _) _ _ _ _ _
  have e2 : (put5 (put5 w g v0 v1 v2 v3 v4) g2 u0 u1 u2 u3 u4).drew.heap[g2]? = some (.cells #[u0, u1, u2, u3, u4] 38 (0, 0)) := by rw [drewHeap]; exact put5_at (put5_other (Ne.symm hne) h2 _ _ _ _ _) _ _ _ _ _
  generalize (put5 (put5 w g v0 v1 v2 v3 v4) g2 u0 u1 u2 u3 u4).drew = W at *
  exact bodyPost_ret (results_c2 hres _ _ g g2 28 38 #[v0, v1, v2, v3, v4] #[u0, u1, u2, u3, u4] (0, 0) (0, 0) _ _ hp e1 Try.underlying28 rfl shardInfo hq e2 Try.underlying38 rfl answerInfo) hd hR
theorem DoPost_same {A0 : Option Addr} {c0 : Nat} {A1 : Option Addr} {c1 : Nat} {A2 : Option Addr} {c2 : Nat} {A3 : Option Addr} {c3 : Nat} {rs : List S50} {hs : List S75} {os : List S48} {ds : List S68} {ver : Int} {w W : World} (hr0 : Kd.C k50 w A0 rs.length rs) (hc0 : rs.length ≤ c0) (hr1 : Kd.C k75 w A1 hs.length hs) (hc1 : hs.length ≤ c1) (hr2 : Kd.C k48 w A2 os.length os) (hc2 : os.length ≤ c2) (hr3 : Kd.C k68 w A3 ds.length ds) (hc3 : ds.length ≤ c3)
    (hb : Below w.heap.size w W) (e : Int) (v : ByteArray) (n : Int) (f c : Bool) : DoPost w (⟨rs, hs, os, ds, ver⟩, ⟨e, v, n, f, c⟩) (.returned (.tuple #[.agg #[.slice A0 rs.length c0, .slice A1 hs.length c1, .slice A2 os.length c2, .slice A3 ds.length c3, .int .u64 ver], .agg #[.int .i64 e, .string v, .int .u64 n, .bool f, .bool c]])) W :=
  ⟨_, rfl, ⟨_, _, _, _, rfl, ⟨_, _, rfl, hc0, Kd.C_below hr0 hb⟩, ⟨_, _, rfl, hc1, Kd.C_below hr1 hb⟩, ⟨_, _, rfl, hc2, Kd.C_below hr2 hb⟩, ⟨_, _, rfl, hc3, Kd.C_below hr3 hb⟩⟩, hb⟩
theorem stayA {w : World} {b : Nat} {o : Obj} (h : w.heap[b]? = some o) (x : Obj) : (w.alloc x).heap[b]? = some o := ((World.grownBy_alloc w x none).block b (Array.getElem?_eq_some_iff.1 h).1 (by simp)).trans h
end Go.Proofs.Ytmcgcdpiceikeaa.PAll
end
section
-- Printed by this session's pr.sh (the kit's print.py, several laws in one namespace). Not trusted: Lean checks it.
namespace Go.Proofs.Ytmcgcdpiceikeaa.PAll
open Go.RowKit Go.Proofs.YtmcgcdpiceikeaaW.PrintWords Go.Proofs.YtmcgcdpiceikeaaW.PrintLast Go.Proofs.YtmcgcdpiceikeaaW.PrintMore
attribute [local go_sem] max2_int min2_int max_two min_two max_three min_three max_four min_four   -- for this text's walks alone
set_option linter.unusedVariables false
set_option linter.unusedSimpArgs false

attribute [local go_sem high] eqA30
/-! ### ferruleref12_inWay: function 71 -/
def ferruleref12_inWay.f (a0_0 : ByteArray) (a0_1 : Int) (a0_2 : Int) (a0_3 : Bool) (a1_0 : Int) (a1_1 : Int) (a2 : ByteArray) (a3 : Bool) : Option (Bool) := if a0_0.toList = a2.toList then (if (!(a0_1 == a1_0) || (!(a0_2 == a1_1))) = true then (if a0_3 = true then (some true) else (some a3)) else (some false)) else (some false)
set_option maxHeartbeats 8000000 in
set_option maxRecDepth 100000 in
theorem ferruleref12_inWay.calls (a0_0 : ByteArray) (a0_1 : Int) (a0_2 : Int) (a0_3 : Bool) (a1_0 : Int) (a1_1 : Int) (a2 : ByteArray) (a3 : Bool) (r : Bool) (w : World) (h : ferruleref12_inWay.f a0_0 a0_1 a0_2 a0_3 a1_0 a1_1 a2 a3 = some r) :
    Calls Try.prog 71 #[.agg #[.string a0_0, .int .u64 a0_1, .int .u64 a0_2, .bool a0_3], .agg #[.int .u64 a1_0, .int .u64 a1_1], .string a2, .bool a3] w fun e w' => e = .returned (.bool r) ∧ Below w.heap.size w w' := by
  have hu75 := Try.underlying75
  have hu30 := Try.underlying30
  have HB := Aside0.mk (Below.refl w.heap.size w)
  have H : (if a0_0.toList = a2.toList then (if (!(a0_1 == a1_0) || (!(a0_2 == a1_1))) = true then (if a0_3 = true then (some true) else (some a3)) else (some false)) else (some false)) = some r := h
  clear h
  by_cases c5 : a0_0.toList = a2.toList
  · rw [if_pos c5] at H
    have c5b0 : (a0_0.toList == a2.toList) = true := beq_iff_eq.mpr c5
    have c5b1 : (a0_0.toList != a2.toList) = false := bne_eq_false_iff_eq.mpr c5
    clear c5
    by_cases c6 : (!(a0_1 == a1_0) || (!(a0_2 == a1_1))) = true
    · rw [if_pos c6] at H
      have c6b0 : (!(a0_1 == a1_0) || (!(a0_2 == a1_1))) = true := c6
      clear c6
      by_cases c7 : a0_3 = true
      · subst c7
        have H1 : (some true) = some r := by rw [if_pos rfl] at H; exact H
        clear H
        have H := H1
        clear H1
        obtain rfl := Option.some.inj H
        go_enter Try.func71, Try.ntmps71
        go_wp2_with (first | ((with_reducible refine gate_dst (N := 4) rfl ?_); refine box_event ?hg (N := 4) ?hd (cs := #[.string a0_0, .int .u64 a0_1, .int .u64 a0_2, .bool true]) (t := 75) ?hr ?_; (case hd => rfl); (case hg => rfl); (case hr => first | (go_simp; done) | (go_simp; rfl)); intro gb194 hg w8 hbox hb; have n0_ := Aside0.mk (below_step (by repeat (first | (with_reducible first | exact HB.out | apply below_alloc | apply pw_below_drewN | apply below_drew1) | exact HB.out)) hb); have n1_ := Aside0.mk (hbox); have n2_ := Aside0.mk ((by rw [hg]; exact (below_size (by repeat (first | (with_reducible first | exact HB.out | apply below_alloc | apply pw_below_drewN | apply below_drew1) | exact HB.out))) : w.heap.size ≤ gb194)); have n3_ := Aside0.mk ((by rw [hg]; exact (below_size (by repeat (first | (with_reducible first | exact HB.out | apply below_alloc | apply pw_below_drewN | apply below_drew1) | exact HB.out))) : w.heap.size ≤ gb194)); clear HB; have HB := n0_; have BK194 := n1_; have GW194 := n2_; have GE194 := n3_; clear n0_ n1_ n2_ n3_; clear hb hbox hg) | ((with_reducible refine gate_dst (N := 5) rfl ?_); refine box_event ?hg (N := 5) ?hd (cs := #[.int .u64 a1_0, .int .u64 a1_1]) (t := 30) ?hr ?_; (case hd => rfl); (case hg => rfl); (case hr => first | (go_simp; done) | (go_simp; rfl)); intro gb195 hg w9 hbox hb; have n0_ := Aside0.mk (blk_below (g := gb194) (o := .cells #[.string a0_0, .int .u64 a0_1, .int .u64 a0_2, .bool true] 75 (0, 0)) (by (with_reducible repeat (first | refine blk_drewN ?_ _ | refine blk_drew ?_ | refine blk_alloc ?_ _)); exact BK194.out) hb); have n1_ := Aside0.mk (below_step (by repeat (first | (with_reducible first | exact HB.out | apply below_alloc | apply pw_below_drewN | apply below_drew1 | refine below_set ?_ GE194.out) | exact HB.out)) hb); have n2_ := Aside0.mk (hbox); have n3_ := Aside0.mk ((by rw [hg]; exact (below_size (by repeat (first | (with_reducible first | exact HB.out | apply below_alloc | apply pw_below_drewN | apply below_drew1 | refine below_set ?_ GE194.out) | exact HB.out))) : w.heap.size ≤ gb195)); have n4_ := Aside0.mk ((by rw [hg]; exact (below_size (by repeat (first | (with_reducible first | exact HB.out | apply below_alloc | apply pw_below_drewN | apply below_drew1 | refine below_set ?_ GE194.out) | exact HB.out))) : w.heap.size ≤ gb195)); have n5_ := Aside0.mk ((by rw [hg]; exact Nat.ne_of_lt (blk_lt (g := gb194) (o := .cells #[.string a0_0, .int .u64 a0_1, .int .u64 a0_2, .bool true] 75 (0, 0)) (by (with_reducible repeat (first | refine blk_drewN ?_ _ | refine blk_drew ?_ | refine blk_alloc ?_ _)); exact BK194.out)) : gb194 ≠ gb195)); have n6_ := Aside0.mk ((by rw [hg]; exact Nat.ne_of_gt (blk_lt (g := gb194) (o := .cells #[.string a0_0, .int .u64 a0_1, .int .u64 a0_2, .bool true] 75 (0, 0)) (by (with_reducible repeat (first | refine blk_drewN ?_ _ | refine blk_drew ?_ | refine blk_alloc ?_ _)); exact BK194.out)) : gb195 ≠ gb194)); clear BK194; clear HB; have BK194 := n0_; have HB := n1_; have BK195 := n2_; have GW195 := n3_; have GE195 := n4_; have NB194_195 := n5_; have NB195_194 := n6_; clear n0_ n1_ n2_ n3_ n4_ n5_ n6_; clear hb hbox hg; have hnb10 := NB194_195.out; have hnc10 := NB195_194.out; have hcz11_0 : w9.cell? ⟨gb194, 0, none⟩ = some (.string a0_0) := (blk_cell BK194.out 0).trans rfl; have hcz11_1 : w9.cell? ⟨gb194, 1, none⟩ = some (.int .u64 a0_1) := (blk_cell BK194.out 1).trans rfl; have hcz11_2 : w9.cell? ⟨gb194, 2, none⟩ = some (.int .u64 a0_2) := (blk_cell BK194.out 2).trans rfl; have hcz11_3 : w9.cell? ⟨gb194, 3, none⟩ = some (.bool true) := (blk_cell BK194.out 3).trans rfl; have hfz11_0 := blk_frozen BK194.out 0; have hfz11_1 := blk_frozen BK194.out 1; have hfz11_2 := blk_frozen BK194.out 2; have hfz11_3 := blk_frozen BK194.out 3; have hcz12_0 : w9.cell? ⟨gb195, 0, none⟩ = some (.int .u64 a1_0) := (blk_cell BK195.out 0).trans rfl; have hcz12_1 : w9.cell? ⟨gb195, 1, none⟩ = some (.int .u64 a1_1) := (blk_cell BK195.out 1).trans rfl; have hfz12_0 := blk_frozen BK195.out 0; have hfz12_1 := blk_frozen BK195.out 1))
        go_ret
        exact ⟨by first | rfl | (simp [errW_none, errW_some] <;> rfl) | (simp [*, errW_none, errW_some] <;> rfl), by repeat (first | (with_reducible first | exact HB.out | apply below_alloc | apply pw_below_drewN | apply below_drew1 | refine below_set ?_ GE194.out | refine below_set ?_ GE195.out) | exact HB.out)⟩
      · replace c7 := Bool.eq_false_iff.mpr c7
        subst c7
        have H1 : (some a3) = some r := by rw [if_neg (show ¬ (false = true) by decide)] at H; exact H
        clear H
        have H := H1
        clear H1
        obtain rfl := Option.some.inj H
        go_enter Try.func71, Try.ntmps71
        go_wp2_with (first | ((with_reducible refine gate_dst (N := 4) rfl ?_); refine box_event ?hg (N := 4) ?hd (cs := #[.string a0_0, .int .u64 a0_1, .int .u64 a0_2, .bool false]) (t := 75) ?hr ?_; (case hd => rfl); (case hg => rfl); (case hr => first | (go_simp; done) | (go_simp; rfl)); intro gb194 hg w13 hbox hb; have n0_ := Aside0.mk (below_step (by repeat (first | (with_reducible first | exact HB.out | apply below_alloc | apply pw_below_drewN | apply below_drew1) | exact HB.out)) hb); have n1_ := Aside0.mk (hbox); have n2_ := Aside0.mk ((by rw [hg]; exact (below_size (by repeat (first | (with_reducible first | exact HB.out | apply below_alloc | apply pw_below_drewN | apply below_drew1) | exact HB.out))) : w.heap.size ≤ gb194)); have n3_ := Aside0.mk ((by rw [hg]; exact (below_size (by repeat (first | (with_reducible first | exact HB.out | apply below_alloc | apply pw_below_drewN | apply below_drew1) | exact HB.out))) : w.heap.size ≤ gb194)); clear HB; have HB := n0_; have BK194 := n1_; have GW194 := n2_; have GE194 := n3_; clear n0_ n1_ n2_ n3_; clear hb hbox hg) | ((with_reducible refine gate_dst (N := 5) rfl ?_); refine box_event ?hg (N := 5) ?hd (cs := #[.int .u64 a1_0, .int .u64 a1_1]) (t := 30) ?hr ?_; (case hd => rfl); (case hg => rfl); (case hr => first | (go_simp; done) | (go_simp; rfl)); intro gb195 hg w14 hbox hb; have n0_ := Aside0.mk (blk_below (g := gb194) (o := .cells #[.string a0_0, .int .u64 a0_1, .int .u64 a0_2, .bool false] 75 (0, 0)) (by (with_reducible repeat (first | refine blk_drewN ?_ _ | refine blk_drew ?_ | refine blk_alloc ?_ _)); exact BK194.out) hb); have n1_ := Aside0.mk (below_step (by repeat (first | (with_reducible first | exact HB.out | apply below_alloc | apply pw_below_drewN | apply below_drew1 | refine below_set ?_ GE194.out) | exact HB.out)) hb); have n2_ := Aside0.mk (hbox); have n3_ := Aside0.mk ((by rw [hg]; exact (below_size (by repeat (first | (with_reducible first | exact HB.out | apply below_alloc | apply pw_below_drewN | apply below_drew1 | refine below_set ?_ GE194.out) | exact HB.out))) : w.heap.size ≤ gb195)); have n4_ := Aside0.mk ((by rw [hg]; exact (below_size (by repeat (first | (with_reducible first | exact HB.out | apply below_alloc | apply pw_below_drewN | apply below_drew1 | refine below_set ?_ GE194.out) | exact HB.out))) : w.heap.size ≤ gb195)); have n5_ := Aside0.mk ((by rw [hg]; exact Nat.ne_of_lt (blk_lt (g := gb194) (o := .cells #[.string a0_0, .int .u64 a0_1, .int .u64 a0_2, .bool false] 75 (0, 0)) (by (with_reducible repeat (first | refine blk_drewN ?_ _ | refine blk_drew ?_ | refine blk_alloc ?_ _)); exact BK194.out)) : gb194 ≠ gb195)); have n6_ := Aside0.mk ((by rw [hg]; exact Nat.ne_of_gt (blk_lt (g := gb194) (o := .cells #[.string a0_0, .int .u64 a0_1, .int .u64 a0_2, .bool false] 75 (0, 0)) (by (with_reducible repeat (first | refine blk_drewN ?_ _ | refine blk_drew ?_ | refine blk_alloc ?_ _)); exact BK194.out)) : gb195 ≠ gb194)); clear BK194; clear HB; have BK194 := n0_; have HB := n1_; have BK195 := n2_; have GW195 := n3_; have GE195 := n4_; have NB194_195 := n5_; have NB195_194 := n6_; clear n0_ n1_ n2_ n3_ n4_ n5_ n6_; clear hb hbox hg; have hnb15 := NB194_195.out; have hnc15 := NB195_194.out; have hcz16_0 : w14.cell? ⟨gb194, 0, none⟩ = some (.string a0_0) := (blk_cell BK194.out 0).trans rfl; have hcz16_1 : w14.cell? ⟨gb194, 1, none⟩ = some (.int .u64 a0_1) := (blk_cell BK194.out 1).trans rfl; have hcz16_2 : w14.cell? ⟨gb194, 2, none⟩ = some (.int .u64 a0_2) := (blk_cell BK194.out 2).trans rfl; have hcz16_3 : w14.cell? ⟨gb194, 3, none⟩ = some (.bool false) := (blk_cell BK194.out 3).trans rfl; have hfz16_0 := blk_frozen BK194.out 0; have hfz16_1 := blk_frozen BK194.out 1; have hfz16_2 := blk_frozen BK194.out 2; have hfz16_3 := blk_frozen BK194.out 3; have hcz17_0 : w14.cell? ⟨gb195, 0, none⟩ = some (.int .u64 a1_0) := (blk_cell BK195.out 0).trans rfl; have hcz17_1 : w14.cell? ⟨gb195, 1, none⟩ = some (.int .u64 a1_1) := (blk_cell BK195.out 1).trans rfl; have hfz17_0 := blk_frozen BK195.out 0; have hfz17_1 := blk_frozen BK195.out 1))
        go_ret
        exact ⟨by first | rfl | (simp [errW_none, errW_some] <;> rfl) | (simp [*, errW_none, errW_some] <;> rfl), by repeat (first | (with_reducible first | exact HB.out | apply below_alloc | apply pw_below_drewN | apply below_drew1 | refine below_set ?_ GE194.out | refine below_set ?_ GE195.out) | exact HB.out)⟩
    · rw [if_neg c6] at H
      have c6b0 : (!(a0_1 == a1_0) || (!(a0_2 == a1_1))) = false := by simpa using c6
      clear c6
      obtain rfl := Option.some.inj H
      go_enter Try.func71, Try.ntmps71
      go_wp2_with (first | ((with_reducible refine gate_dst (N := 4) rfl ?_); refine box_event ?hg (N := 4) ?hd (cs := #[.string a0_0, .int .u64 a0_1, .int .u64 a0_2, .bool a0_3]) (t := 75) ?hr ?_; (case hd => rfl); (case hg => rfl); (case hr => first | (go_simp; done) | (go_simp; rfl)); intro gb194 hg w18 hbox hb; have n0_ := Aside0.mk (below_step (by repeat (first | (with_reducible first | exact HB.out | apply below_alloc | apply pw_below_drewN | apply below_drew1) | exact HB.out)) hb); have n1_ := Aside0.mk (hbox); have n2_ := Aside0.mk ((by rw [hg]; exact (below_size (by repeat (first | (with_reducible first | exact HB.out | apply below_alloc | apply pw_below_drewN | apply below_drew1) | exact HB.out))) : w.heap.size ≤ gb194)); have n3_ := Aside0.mk ((by rw [hg]; exact (below_size (by repeat (first | (with_reducible first | exact HB.out | apply below_alloc | apply pw_below_drewN | apply below_drew1) | exact HB.out))) : w.heap.size ≤ gb194)); clear HB; have HB := n0_; have BK194 := n1_; have GW194 := n2_; have GE194 := n3_; clear n0_ n1_ n2_ n3_; clear hb hbox hg) | ((with_reducible refine gate_dst (N := 5) rfl ?_); refine box_event ?hg (N := 5) ?hd (cs := #[.int .u64 a1_0, .int .u64 a1_1]) (t := 30) ?hr ?_; (case hd => rfl); (case hg => rfl); (case hr => first | (go_simp; done) | (go_simp; rfl)); intro gb195 hg w19 hbox hb; have n0_ := Aside0.mk (blk_below (g := gb194) (o := .cells #[.string a0_0, .int .u64 a0_1, .int .u64 a0_2, .bool a0_3] 75 (0, 0)) (by (with_reducible repeat (first | refine blk_drewN ?_ _ | refine blk_drew ?_ | refine blk_alloc ?_ _)); exact BK194.out) hb); have n1_ := Aside0.mk (below_step (by repeat (first | (with_reducible first | exact HB.out | apply below_alloc | apply pw_below_drewN | apply below_drew1 | refine below_set ?_ GE194.out) | exact HB.out)) hb); have n2_ := Aside0.mk (hbox); have n3_ := Aside0.mk ((by rw [hg]; exact (below_size (by repeat (first | (with_reducible first | exact HB.out | apply below_alloc | apply pw_below_drewN | apply below_drew1 | refine below_set ?_ GE194.out) | exact HB.out))) : w.heap.size ≤ gb195)); have n4_ := Aside0.mk ((by rw [hg]; exact (below_size (by repeat (first | (with_reducible first | exact HB.out | apply below_alloc | apply pw_below_drewN | apply below_drew1 | refine below_set ?_ GE194.out) | exact HB.out))) : w.heap.size ≤ gb195)); have n5_ := Aside0.mk ((by rw [hg]; exact Nat.ne_of_lt (blk_lt (g := gb194) (o := .cells #[.string a0_0, .int .u64 a0_1, .int .u64 a0_2, .bool a0_3] 75 (0, 0)) (by (with_reducible repeat (first | refine blk_drewN ?_ _ | refine blk_drew ?_ | refine blk_alloc ?_ _)); exact BK194.out)) : gb194 ≠ gb195)); have n6_ := Aside0.mk ((by rw [hg]; exact Nat.ne_of_gt (blk_lt (g := gb194) (o := .cells #[.string a0_0, .int .u64 a0_1, .int .u64 a0_2, .bool a0_3] 75 (0, 0)) (by (with_reducible repeat (first | refine blk_drewN ?_ _ | refine blk_drew ?_ | refine blk_alloc ?_ _)); exact BK194.out)) : gb195 ≠ gb194)); clear BK194; clear HB; have BK194 := n0_; have HB := n1_; have BK195 := n2_; have GW195 := n3_; have GE195 := n4_; have NB194_195 := n5_; have NB195_194 := n6_; clear n0_ n1_ n2_ n3_ n4_ n5_ n6_; clear hb hbox hg; have hnb20 := NB194_195.out; have hnc20 := NB195_194.out; have hcz21_0 : w19.cell? ⟨gb194, 0, none⟩ = some (.string a0_0) := (blk_cell BK194.out 0).trans rfl; have hcz21_1 : w19.cell? ⟨gb194, 1, none⟩ = some (.int .u64 a0_1) := (blk_cell BK194.out 1).trans rfl; have hcz21_2 : w19.cell? ⟨gb194, 2, none⟩ = some (.int .u64 a0_2) := (blk_cell BK194.out 2).trans rfl; have hcz21_3 : w19.cell? ⟨gb194, 3, none⟩ = some (.bool a0_3) := (blk_cell BK194.out 3).trans rfl; have hfz21_0 := blk_frozen BK194.out 0; have hfz21_1 := blk_frozen BK194.out 1; have hfz21_2 := blk_frozen BK194.out 2; have hfz21_3 := blk_frozen BK194.out 3; have hcz22_0 : w19.cell? ⟨gb195, 0, none⟩ = some (.int .u64 a1_0) := (blk_cell BK195.out 0).trans rfl; have hcz22_1 : w19.cell? ⟨gb195, 1, none⟩ = some (.int .u64 a1_1) := (blk_cell BK195.out 1).trans rfl; have hfz22_0 := blk_frozen BK195.out 0; have hfz22_1 := blk_frozen BK195.out 1))
      go_ret
      exact ⟨by first | rfl | (simp [errW_none, errW_some] <;> rfl) | (simp [*, errW_none, errW_some] <;> rfl), by repeat (first | (with_reducible first | exact HB.out | apply below_alloc | apply pw_below_drewN | apply below_drew1 | refine below_set ?_ GE194.out | refine below_set ?_ GE195.out) | exact HB.out)⟩
  · rw [if_neg c5] at H
    have c5b0 : (a0_0.toList == a2.toList) = false := beq_eq_false_iff_ne.mpr c5
    have c5b1 : (a0_0.toList != a2.toList) = true := bne_iff_ne.mpr c5
    obtain rfl := Option.some.inj H
    go_enter Try.func71, Try.ntmps71
    go_wp2_with (first | ((with_reducible refine gate_dst (N := 4) rfl ?_); refine box_event ?hg (N := 4) ?hd (cs := #[.string a0_0, .int .u64 a0_1, .int .u64 a0_2, .bool a0_3]) (t := 75) ?hr ?_; (case hd => rfl); (case hg => rfl); (case hr => first | (go_simp; done) | (go_simp; rfl)); intro gb194 hg w23 hbox hb; have n0_ := Aside0.mk (below_step (by repeat (first | (with_reducible first | exact HB.out | apply below_alloc | apply pw_below_drewN | apply below_drew1) | exact HB.out)) hb); have n1_ := Aside0.mk (hbox); have n2_ := Aside0.mk ((by rw [hg]; exact (below_size (by repeat (first | (with_reducible first | exact HB.out | apply below_alloc | apply pw_below_drewN | apply below_drew1) | exact HB.out))) : w.heap.size ≤ gb194)); have n3_ := Aside0.mk ((by rw [hg]; exact (below_size (by repeat (first | (with_reducible first | exact HB.out | apply below_alloc | apply pw_below_drewN | apply below_drew1) | exact HB.out))) : w.heap.size ≤ gb194)); clear HB; have HB := n0_; have BK194 := n1_; have GW194 := n2_; have GE194 := n3_; clear n0_ n1_ n2_ n3_; clear hb hbox hg) | ((with_reducible refine gate_dst (N := 5) rfl ?_); refine box_event ?hg (N := 5) ?hd (cs := #[.int .u64 a1_0, .int .u64 a1_1]) (t := 30) ?hr ?_; (case hd => rfl); (case hg => rfl); (case hr => first | (go_simp; done) | (go_simp; rfl)); intro gb195 hg w24 hbox hb; have n0_ := Aside0.mk (blk_below (g := gb194) (o := .cells #[.string a0_0, .int .u64 a0_1, .int .u64 a0_2, .bool a0_3] 75 (0, 0)) (by (with_reducible repeat (first | refine blk_drewN ?_ _ | refine blk_drew ?_ | refine blk_alloc ?_ _)); exact BK194.out) hb); have n1_ := Aside0.mk (below_step (by repeat (first | (with_reducible first | exact HB.out | apply below_alloc | apply pw_below_drewN | apply below_drew1 | refine below_set ?_ GE194.out) | exact HB.out)) hb); have n2_ := Aside0.mk (hbox); have n3_ := Aside0.mk ((by rw [hg]; exact (below_size (by repeat (first | (with_reducible first | exact HB.out | apply below_alloc | apply pw_below_drewN | apply below_drew1 | refine below_set ?_ GE194.out) | exact HB.out))) : w.heap.size ≤ gb195)); have n4_ := Aside0.mk ((by rw [hg]; exact (below_size (by repeat (first | (with_reducible first | exact HB.out | apply below_alloc | apply pw_below_drewN | apply below_drew1 | refine below_set ?_ GE194.out) | exact HB.out))) : w.heap.size ≤ gb195)); have n5_ := Aside0.mk ((by rw [hg]; exact Nat.ne_of_lt (blk_lt (g := gb194) (o := .cells #[.string a0_0, .int .u64 a0_1, .int .u64 a0_2, .bool a0_3] 75 (0, 0)) (by (with_reducible repeat (first | refine blk_drewN ?_ _ | refine blk_drew ?_ | refine blk_alloc ?_ _)); exact BK194.out)) : gb194 ≠ gb195)); have n6_ := Aside0.mk ((by rw [hg]; exact Nat.ne_of_gt (blk_lt (g := gb194) (o := .cells #[.string a0_0, .int .u64 a0_1, .int .u64 a0_2, .bool a0_3] 75 (0, 0)) (by (with_reducible repeat (first | refine blk_drewN ?_ _ | refine blk_drew ?_ | refine blk_alloc ?_ _)); exact BK194.out)) : gb195 ≠ gb194)); clear BK194; clear HB; have BK194 := n0_; have HB := n1_; have BK195 := n2_; have GW195 := n3_; have GE195 := n4_; have NB194_195 := n5_; have NB195_194 := n6_; clear n0_ n1_ n2_ n3_ n4_ n5_ n6_; clear hb hbox hg; have hnb25 := NB194_195.out; have hnc25 := NB195_194.out; have hcz26_0 : w24.cell? ⟨gb194, 0, none⟩ = some (.string a0_0) := (blk_cell BK194.out 0).trans rfl; have hcz26_1 : w24.cell? ⟨gb194, 1, none⟩ = some (.int .u64 a0_1) := (blk_cell BK194.out 1).trans rfl; have hcz26_2 : w24.cell? ⟨gb194, 2, none⟩ = some (.int .u64 a0_2) := (blk_cell BK194.out 2).trans rfl; have hcz26_3 : w24.cell? ⟨gb194, 3, none⟩ = some (.bool a0_3) := (blk_cell BK194.out 3).trans rfl; have hfz26_0 := blk_frozen BK194.out 0; have hfz26_1 := blk_frozen BK194.out 1; have hfz26_2 := blk_frozen BK194.out 2; have hfz26_3 := blk_frozen BK194.out 3))
    go_ret
    exact ⟨by first | rfl | (simp [errW_none, errW_some] <;> rfl) | (simp [*, errW_none, errW_some] <;> rfl), by repeat (first | (with_reducible first | exact HB.out | apply below_alloc | apply pw_below_drewN | apply below_drew1 | refine below_set ?_ GE194.out | refine below_set ?_ GE195.out) | exact HB.out)⟩

end Go.Proofs.Ytmcgcdpiceikeaa.PAll
end
section
/- ferruleref12: Among, inWay, Elder; how a list of holds is built anew. -/
namespace Go.Proofs.Ytmcgcdpiceikeaa.PAll
open Go.RowKit Go.Proofs.YtmcgcdpiceikeaaW.PrintWords Go.Proofs.YtmcgcdpiceikeaaW.PrintMore Go.Proofs.Ytmcgcdpiceikeaa
set_option linter.unusedVariables false
theorem wrapInc (j : Nat) (h : j < 9223372036854775807) : wrap64 ((j : Int) + 1) = ((j + 1 : Nat) : Int) := by unfold wrap64; omega
theorem rdTx (l : List S30) (j : Nat) (hj : j < l.length) : rd_T30 l (j : Int) = l[j]! := by
  simp [rd_T30, List.getD_eq_getElem?_getD, List.getElem?_eq_getElem hj, getElem!_pos l j hj]
theorem rinWay_val (x : S75) (t : S30) (key : ByteArray) (wr : Bool) : ferruleref12_inWay.f x.f0 x.f1.f0 x.f1.f1 x.f2 t.f0 t.f1 key wr = some (inWayB x t key wr) := inWay_val x t key wr
end Go.Proofs.Ytmcgcdpiceikeaa.PAll
end
