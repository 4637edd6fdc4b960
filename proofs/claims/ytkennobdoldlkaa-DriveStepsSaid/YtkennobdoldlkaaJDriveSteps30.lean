/- Joined texts of the claim DriveSteps (part 30): contracts of functions and plain laws. -/
import Derived.Lib.BufferWrite
import Derived.Test.YtkennobdoldlkaaJDriveSteps29
import Derived.WalkKit
import Derived.Test.YtkennobdoldlkaaJDriveSteps15
set_option linter.unusedVariables false
set_option linter.unusedSimpArgs false
section
namespace Go.Proofs.Ytkennobdoldlkaa.PAll
open Go.RowKit Go.Proofs.YtkennobdoldlkaaW.PrintWords Go.Proofs.Ytkennobdoldlkaa
theorem orderInfo20 : (Try.prog.info? 38).map (·.size) = some 7 := by kernel_rfl
theorem driveInfo20 : (Try.prog.info? 30).map (·.size) = some 9 := by kernel_rfl
theorem qz14 {w : World} {b : Nat} {o : Obj} (h : w.heap[b]? = some o) (x : Obj) : (w.alloc x).heap[b]? = some o := ((World.grownBy_alloc w x none).block b (Array.getElem?_eq_some_iff.1 h).1 (by simp)).trans h
theorem qz48 {w : World} {b i : Nat} {t : TypeId} {cs : Array Value} (h : w.heap[b]? = some (.cells cs t (0, 0))) : w.frozen? ⟨b, i, none⟩ = false := by simp [World.frozen?, h]
theorem cellsB3 {w : World} {b : Nat} {t : TypeId} {a0 a1 a2 : Value} (h : w.heap[b]? = some (.cells #[a0, a1, a2] t (0, 0))) : w.cell? ⟨b, 0, none⟩ = some a0 ∧ w.cell? ⟨b, 1, none⟩ = some a1 ∧ w.cell? ⟨b, 2, none⟩ = some a2 :=
  ⟨qz30 (cs := [a0, a1, a2]) h 0, qz30 (cs := [a0, a1, a2]) h 1, qz30 (cs := [a0, a1, a2]) h 2⟩
theorem frozB3 {w : World} {b : Nat} {t : TypeId} {a0 a1 a2 : Value} (h : w.heap[b]? = some (.cells #[a0, a1, a2] t (0, 0))) : w.frozen? ⟨b, 0, none⟩ = false ∧ w.frozen? ⟨b, 1, none⟩ = false ∧ w.frozen? ⟨b, 2, none⟩ = false :=
  ⟨qz48 h, qz48 h, qz48 h⟩
theorem qz27 {w : World} {b : Nat} {t : TypeId} {a0 a1 a2 a3 a4 : Value} (h : w.heap[b]? = some (.cells #[a0, a1, a2, a3, a4] t (0, 0))) : w.cell? ⟨b, 0, none⟩ = some a0 ∧ w.cell? ⟨b, 1, none⟩ = some a1 ∧ w.cell? ⟨b, 2, none⟩ = some a2 ∧ w.cell? ⟨b, 3, none⟩ = some a3 ∧ w.cell? ⟨b, 4, none⟩ = some a4 :=
  ⟨qz30 (cs := [a0, a1, a2, a3, a4]) h 0, qz30 (cs := [a0, a1, a2, a3, a4]) h 1, qz30 (cs := [a0, a1, a2, a3, a4]) h 2, qz30 (cs := [a0, a1, a2, a3, a4]) h 3, qz30 (cs := [a0, a1, a2, a3, a4]) h 4⟩
theorem qz41 {w : World} {b : Nat} {t : TypeId} {a0 a1 a2 a3 a4 a5 a6 : Value} (h : w.heap[b]? = some (.cells #[a0, a1, a2, a3, a4, a5, a6] t (0, 0))) : w.cell? ⟨b, 0, none⟩ = some a0 ∧ w.cell? ⟨b, 1, none⟩ = some a1 ∧ w.cell? ⟨b, 2, none⟩ = some a2 ∧ w.cell? ⟨b, 3, none⟩ = some a3 ∧ w.cell? ⟨b, 4, none⟩ = some a4 ∧ w.cell? ⟨b, 5, none⟩ = some a5 ∧ w.cell? ⟨b, 6, none⟩ = some a6 :=
  ⟨qz30 (cs := [a0, a1, a2, a3, a4, a5, a6]) h 0, qz30 (cs := [a0, a1, a2, a3, a4, a5, a6]) h 1, qz30 (cs := [a0, a1, a2, a3, a4, a5, a6]) h 2, qz30 (cs := [a0, a1, a2, a3, a4, a5, a6]) h 3, qz30 (cs := [a0, a1, a2, a3, a4, a5, a6]) h 4, qz30 (cs := [a0, a1, a2, a3, a4, a5, a6]) h 5, qz30 (cs := [a0, a1, a2, a3, a4, a5, a6]) h 6⟩
theorem frozB7 {w : World} {b : Nat} {t : TypeId} {a0 a1 a2 a3 a4 a5 a6 : Value} (h : w.heap[b]? = some (.cells #[a0, a1, a2, a3, a4, a5, a6] t (0, 0))) : w.frozen? ⟨b, 0, none⟩ = false ∧ w.frozen? ⟨b, 1, none⟩ = false ∧ w.frozen? ⟨b, 2, none⟩ = false ∧ w.frozen? ⟨b, 3, none⟩ = false ∧ w.frozen? ⟨b, 4, none⟩ = false ∧ w.frozen? ⟨b, 5, none⟩ = false ∧ w.frozen? ⟨b, 6, none⟩ = false :=
  ⟨qz48 h, qz48 h, qz48 h, qz48 h, qz48 h, qz48 h, qz48 h⟩
@[reducible] def putB7 (w : World) (g : Nat) (v0 v1 v2 v3 v4 v5 v6 : Value) : World := ((((((w.setCell ⟨g, 0, none⟩ v0).setCell ⟨g, 1, none⟩ v1).setCell ⟨g, 2, none⟩ v2).setCell ⟨g, 3, none⟩ v3).setCell ⟨g, 4, none⟩ v4).setCell ⟨g, 5, none⟩ v5).setCell ⟨g, 6, none⟩ v6
theorem putB7_at {w : World} {g : Nat} {t : TypeId} {a0 a1 a2 a3 a4 a5 a6 : Value} (h : w.heap[g]? = some (.cells #[a0, a1, a2, a3, a4, a5, a6] t (0, 0))) (v0 v1 v2 v3 v4 v5 v6 : Value) : (putB7 w g v0 v1 v2 v3 v4 v5 v6).heap[g]? = some (.cells #[v0, v1, v2, v3, v4, v5, v6] t (0, 0)) :=
  qz12 (cs := #[v0, v1, v2, v3, v4, v5, a6]) (qz12 (cs := #[v0, v1, v2, v3, v4, a5, a6]) (qz12 (cs := #[v0, v1, v2, v3, a4, a5, a6]) (qz12 (cs := #[v0, v1, v2, a3, a4, a5, a6]) (qz12 (cs := #[v0, v1, a2, a3, a4, a5, a6]) (qz12 (cs := #[v0, a1, a2, a3, a4, a5, a6]) (qz12 (cs := #[a0, a1, a2, a3, a4, a5, a6]) h 0 _ rfl) 1 _ rfl) 2 _ rfl) 3 _ rfl) 4 _ rfl) 5 _ rfl) 6 _ rfl
theorem qz47 {q : Nat} {w0 w : World} {g : Nat} (h : Below q w0 w) (hq : q ≤ g) (v0 v1 v2 v3 v4 v5 v6 : Value) : Below q w0 (putB7 w g v0 v1 v2 v3 v4 v5 v6) :=
  ((((((h.setCell (p := ⟨g, 0, none⟩) hq _).setCell (p := ⟨g, 1, none⟩) hq _).setCell (p := ⟨g, 2, none⟩) hq _).setCell (p := ⟨g, 3, none⟩) hq _).setCell (p := ⟨g, 4, none⟩) hq _).setCell (p := ⟨g, 5, none⟩) hq _).setCell (p := ⟨g, 6, none⟩) hq _
theorem qz13 {w : World} {b : Nat} {t : TypeId} {a0 a1 a2 a3 a4 a5 a6 a7 a8 : Value} (h : w.heap[b]? = some (.cells #[a0, a1, a2, a3, a4, a5, a6, a7, a8] t (0, 0))) : w.cell? ⟨b, 0, none⟩ = some a0 ∧ w.cell? ⟨b, 1, none⟩ = some a1 ∧ w.cell? ⟨b, 2, none⟩ = some a2 ∧ w.cell? ⟨b, 3, none⟩ = some a3 ∧ w.cell? ⟨b, 4, none⟩ = some a4 ∧ w.cell? ⟨b, 5, none⟩ = some a5 ∧ w.cell? ⟨b, 6, none⟩ = some a6 ∧ w.cell? ⟨b, 7, none⟩ = some a7 ∧ w.cell? ⟨b, 8, none⟩ = some a8 :=
  ⟨qz30 (cs := [a0, a1, a2, a3, a4, a5, a6, a7, a8]) h 0, qz30 (cs := [a0, a1, a2, a3, a4, a5, a6, a7, a8]) h 1, qz30 (cs := [a0, a1, a2, a3, a4, a5, a6, a7, a8]) h 2, qz30 (cs := [a0, a1, a2, a3, a4, a5, a6, a7, a8]) h 3, qz30 (cs := [a0, a1, a2, a3, a4, a5, a6, a7, a8]) h 4, qz30 (cs := [a0, a1, a2, a3, a4, a5, a6, a7, a8]) h 5, qz30 (cs := [a0, a1, a2, a3, a4, a5, a6, a7, a8]) h 6, qz30 (cs := [a0, a1, a2, a3, a4, a5, a6, a7, a8]) h 7, qz30 (cs := [a0, a1, a2, a3, a4, a5, a6, a7, a8]) h 8⟩
theorem qz17 {w : World} {b : Nat} {t : TypeId} {a0 a1 a2 a3 a4 a5 a6 a7 a8 : Value} (h : w.heap[b]? = some (.cells #[a0, a1, a2, a3, a4, a5, a6, a7, a8] t (0, 0))) : w.frozen? ⟨b, 0, none⟩ = false ∧ w.frozen? ⟨b, 1, none⟩ = false ∧ w.frozen? ⟨b, 2, none⟩ = false ∧ w.frozen? ⟨b, 3, none⟩ = false ∧ w.frozen? ⟨b, 4, none⟩ = false ∧ w.frozen? ⟨b, 5, none⟩ = false ∧ w.frozen? ⟨b, 6, none⟩ = false ∧ w.frozen? ⟨b, 7, none⟩ = false ∧ w.frozen? ⟨b, 8, none⟩ = false :=
  ⟨qz48 h, qz48 h, qz48 h, qz48 h, qz48 h, qz48 h, qz48 h, qz48 h, qz48 h⟩
@[reducible] def putB9 (w : World) (g : Nat) (v0 v1 v2 v3 v4 v5 v6 v7 v8 : Value) : World := ((((((((w.setCell ⟨g, 0, none⟩ v0).setCell ⟨g, 1, none⟩ v1).setCell ⟨g, 2, none⟩ v2).setCell ⟨g, 3, none⟩ v3).setCell ⟨g, 4, none⟩ v4).setCell ⟨g, 5, none⟩ v5).setCell ⟨g, 6, none⟩ v6).setCell ⟨g, 7, none⟩ v7).setCell ⟨g, 8, none⟩ v8
theorem qz34 {w : World} {g : Nat} {t : TypeId} {a0 a1 a2 a3 a4 a5 a6 a7 a8 : Value} (h : w.heap[g]? = some (.cells #[a0, a1, a2, a3, a4, a5, a6, a7, a8] t (0, 0))) (v0 v1 v2 v3 v4 v5 v6 v7 v8 : Value) : (putB9 w g v0 v1 v2 v3 v4 v5 v6 v7 v8).heap[g]? = some (.cells #[v0, v1, v2, v3, v4, v5, v6, v7, v8] t (0, 0)) :=
  qz12 (cs := #[v0, v1, v2, v3, v4, v5, v6, v7, a8]) (qz12 (cs := #[v0, v1, v2, v3, v4, v5, v6, a7, a8]) (qz12 (cs := #[v0, v1, v2, v3, v4, v5, a6, a7, a8]) (qz12 (cs := #[v0, v1, v2, v3, v4, a5, a6, a7, a8]) (qz12 (cs := #[v0, v1, v2, v3, a4, a5, a6, a7, a8]) (qz12 (cs := #[v0, v1, v2, a3, a4, a5, a6, a7, a8]) (qz12 (cs := #[v0, v1, a2, a3, a4, a5, a6, a7, a8]) (qz12 (cs := #[v0, a1, a2, a3, a4, a5, a6, a7, a8]) (qz12 (cs := #[a0, a1, a2, a3, a4, a5, a6, a7, a8]) h 0 _ rfl) 1 _ rfl) 2 _ rfl) 3 _ rfl) 4 _ rfl) 5 _ rfl) 6 _ rfl) 7 _ rfl) 8 _ rfl
theorem putB9_other {w : World} {g b : Nat} {o : Obj} (hne : b ≠ g) (h : w.heap[b]? = some o) (v0 v1 v2 v3 v4 v5 v6 v7 v8 : Value) : (putB9 w g v0 v1 v2 v3 v4 v5 v6 v7 v8).heap[b]? = some o := by
  unfold putB9
  rw [RowKit.Below.heap_setCell _ _ _ _ hne, RowKit.Below.heap_setCell _ _ _ _ hne, RowKit.Below.heap_setCell _ _ _ _ hne, RowKit.Below.heap_setCell _ _ _ _ hne, RowKit.Below.heap_setCell _ _ _ _ hne, RowKit.Below.heap_setCell _ _ _ _ hne, RowKit.Below.heap_setCell _ _ _ _ hne, RowKit.Below.heap_setCell _ _ _ _ hne, RowKit.Below.heap_setCell _ _ _ _ hne]
  exact h
theorem qz23 {q : Nat} {w0 w : World} {g : Nat} (h : Below q w0 w) (hq : q ≤ g) (v0 v1 v2 v3 v4 v5 v6 v7 v8 : Value) : Below q w0 (putB9 w g v0 v1 v2 v3 v4 v5 v6 v7 v8) :=
  ((((((((h.setCell (p := ⟨g, 0, none⟩) hq _).setCell (p := ⟨g, 1, none⟩) hq _).setCell (p := ⟨g, 2, none⟩) hq _).setCell (p := ⟨g, 3, none⟩) hq _).setCell (p := ⟨g, 4, none⟩) hq _).setCell (p := ⟨g, 5, none⟩) hq _).setCell (p := ⟨g, 6, none⟩) hq _).setCell (p := ⟨g, 7, none⟩) hq _).setCell (p := ⟨g, 8, none⟩) hq _
theorem putB7_grown (w : World) (g : Nat) (v0 v1 v2 v3 v4 v5 v6 : Value) : w.grownBy (putB7 w g v0 v1 v2 v3 v4 v5 v6) (some g) :=
  (((((((World.grownBy.refl w (some g)).trans (Lib.grownBy_setCell _ g 0 v0)).trans (Lib.grownBy_setCell _ g 1 v1)).trans (Lib.grownBy_setCell _ g 2 v2)).trans (Lib.grownBy_setCell _ g 3 v3)).trans (Lib.grownBy_setCell _ g 4 v4)).trans (Lib.grownBy_setCell _ g 5 v5)).trans (Lib.grownBy_setCell _ g 6 v6)
theorem putB9_grown (w : World) (g : Nat) (v0 v1 v2 v3 v4 v5 v6 v7 v8 : Value) : w.grownBy (putB9 w g v0 v1 v2 v3 v4 v5 v6 v7 v8) (some g) :=
  (((((((((World.grownBy.refl w (some g)).trans (Lib.grownBy_setCell _ g 0 v0)).trans (Lib.grownBy_setCell _ g 1 v1)).trans (Lib.grownBy_setCell _ g 2 v2)).trans (Lib.grownBy_setCell _ g 3 v3)).trans (Lib.grownBy_setCell _ g 4 v4)).trans (Lib.grownBy_setCell _ g 5 v5)).trans (Lib.grownBy_setCell _ g 6 v6)).trans (Lib.grownBy_setCell _ g 7 v7)).trans (Lib.grownBy_setCell _ g 8 v8)
theorem results_tct20 {P : Program} {fn : Func} {p u v : Tmp} {ty : TypeId} (h : fn.results = #[.tmp u, .cell p ty, .tmp v]) (tmps : Array Value) (w : World) (g : Nat) (t : TypeId) (cs : Array Value) (fr : Nat × Nat) (d : TypeDesc)
    (hp : tmps.getD p undef = .pointer (some ⟨g, 0, none⟩)) (hg : w.heap[g]? = some (.cells cs t fr))
    (hu : P.underlying ty = some d) (hd : (match d with | .struct _ | .array _ _ => true | _ => false) = true) (hi : (P.info? ty).map (·.size) = some cs.size) :
    (results fn tmps).run P w = .ok (.tuple #[tmps.getD u undef, .agg cs, tmps.getD v undef]) w := by
  have hp' : tmps[p]?.getD undef = .pointer (some ⟨g, 0, none⟩) := by simpa using hp
  simp [results, h, hp', asAddr, run_loadVar_row w g t ty cs fr d hg hu hd hi]
theorem ret9 {fn : Func} {a : Act} {W : World} {g : Nat} {p : Tmp} {v0 v1 v2 v3 v4 v5 v6 v7 v8 : Value} {R : Ending → World → Prop} (hres : fn.results = #[.cell p 30]) (hd : a.defers = []) (hp : a.tmps.getD p undef = .pointer (some ⟨g, 0, none⟩)) (h : W.heap[g]? = some (.cells #[v0, v1, v2, v3, v4, v5, v6, v7, v8] 30 (0, 0)))
    (hR : R (.returned (.agg #[v0, v1, v2, v3, v4, v5, v6, v7, v8])) W) : bodyPost Try.prog fn R .ret a W :=
  bodyPost_ret (results_cell_row hres _ _ g 30 #[v0, v1, v2, v3, v4, v5, v6, v7, v8] (0, 0) _ hp h Try.underlying30 rfl driveInfo20) hd hR
theorem ret9t {fn : Func} {a : Act} {W : World} {g : Nat} {p u : Tmp} {v0 v1 v2 v3 v4 v5 v6 v7 v8 x : Value} {R : Ending → World → Prop} (hres : fn.results = #[.cell p 30, .tmp u]) (hd : a.defers = []) (hp : a.tmps.getD p undef = .pointer (some ⟨g, 0, none⟩)) (hu : a.tmps.getD u undef = x) (h : W.heap[g]? = some (.cells #[v0, v1, v2, v3, v4, v5, v6, v7, v8] 30 (0, 0)))
    (hR : R (.returned (.tuple #[.agg #[v0, v1, v2, v3, v4, v5, v6, v7, v8], x])) W) : bodyPost Try.prog fn R .ret a W := by
  subst hu
  exact bodyPost_ret (results_ct hres _ _ g 30 #[v0, v1, v2, v3, v4, v5, v6, v7, v8] (0, 0) _ hp h Try.underlying30 rfl driveInfo20) hd hR
theorem ret7 {fn : Func} {a : Act} {W : World} {g : Nat} {p u v : Tmp} {v0 v1 v2 v3 v4 v5 v6 x y : Value} {R : Ending → World → Prop} (hres : fn.results = #[.tmp u, .cell p 38, .tmp v]) (hd : a.defers = []) (hp : a.tmps.getD p undef = .pointer (some ⟨g, 0, none⟩)) (hu : a.tmps.getD u undef = x) (hv : a.tmps.getD v undef = y) (h : W.heap[g]? = some (.cells #[v0, v1, v2, v3, v4, v5, v6] 38 (0, 0)))
    (hR : R (.returned (.tuple #[x, .agg #[v0, v1, v2, v3, v4, v5, v6], y])) W) : bodyPost Try.prog fn R .ret a W := by
  subst hu hv
  exact bodyPost_ret (results_tct20 hres _ _ g 38 #[v0, v1, v2, v3, v4, v5, v6] (0, 0) _ hp h Try.underlying38 rfl orderInfo20) hd hR
theorem drewHeap20 (W : World) : W.drew.heap = W.heap := rfl
theorem ret7D {fn : Func} {a : Act} {w : World} {g : Nat} {p u v : Tmp} {v0 v1 v2 v3 v4 v5 v6 a0 a1 a2 a3 a4 a5 a6 x y : Value} {R : Ending → World → Prop} (hres : fn.results = #[.tmp u, .cell p 38, .tmp v]) (hd : a.defers = []) (hp : a.tmps.getD p undef = .pointer (some ⟨g, 0, none⟩)) (hu : a.tmps.getD u undef = x) (hv : a.tmps.getD v undef = y) (h : w.heap[g]? = some (.cells #[a0, a1, a2, a3, a4, a5, a6] 38 (0, 0)))
    (hR : R (.returned (.tuple #[x, .agg #[v0, v1, v2, v3, v4, v5, v6], y])) (putB7 w g v0 v1 v2 v3 v4 v5 v6).drew) : bodyPost Try.prog fn R .ret a (putB7 w g v0 v1 v2 v3 v4 v5 v6).drew := by
  have e1 : (putB7 w g v0 v1 v2 v3 v4 v5 v6).drew.heap[g]? = some (.cells #[v0, v1, v2, v3, v4, v5, v6] 38 (0, 0)) := by rw [drewHeap20]; exact putB7_at h _ _ _ _ _ _ _
  generalize (putB7 w g v0 v1 v2 v3 v4 v5 v6).drew = W at *
  exact ret7 hres hd hp hu hv e1 hR
theorem cell_ofI20 {w : World} {A : Option Addr} {l : List Int} (h : Kd.C (Kd.int .u64) w A l.length l) (j : Nat) (hj : j < l.length) : ∃ b o, A = some ⟨b, o, none⟩ ∧ w.cell? ⟨b, o + j, none⟩ = some (.int .u64 l[j]!) := by
  obtain ⟨b, o, rfl, hrow⟩ := C_row h (by decide) (by omega)
  obtain ⟨cs, hcs, hK, hrg⟩ := hrow j hj
  obtain rfl : cs = [.int .u64 l[j]!] := hK
  refine ⟨b, o, rfl, ?_⟩
  have := hrg 0 _ rfl
  rwa [show (Kd.int .u64).sz = 1 from rfl, Nat.mul_one, Nat.add_zero] at this
def mayB (s : S53) : Bool := decide ((1 : Int) ≤ s.f0) && decide (s.f0 ≤ 63) && decide ((1 : Int) ≤ (s.f1.size : Int)) && decide ((s.f1.size : Int) ≤ 16) && decide ((s.f2.size : Int) ≤ 32) && (s.f3 || (s.f2.toList == [] && !s.f4)) && !(s.f4 && s.f2.toList != [])
set_option maxHeartbeats 4000000 in
set_option maxRecDepth 100000 in
theorem may_step (x : S53) (W : World) :
    Calls Try.prog 41 #[.agg #[.int .u64 x.f0, .string x.f1, .string x.f2, .bool x.f3, .bool x.f4]] W fun e W' => e = .returned (.bool (mayB x)) ∧ Below W.heap.size W W' := by
  obtain ⟨a, k, v, wr, gone⟩ := x
  dsimp only
  by_cases h1 : (1 : Int) ≤ a
  · by_cases h2 : a ≤ 63
    · by_cases h3 : (1 : Int) ≤ (k.size : Int)
      · by_cases h4 : (k.size : Int) ≤ 16
        · by_cases h5 : (v.size : Int) ≤ 32
          · cases wr
            · by_cases h6 : v.toList = []
              · cases gone
                · have h7 : (v.toList == ([] : List UInt8)) = true := by rw [h6]; rfl
                  go_enter Try.func41, Try.ntmps41
                  go_wp2
                  go_ret
                  refine ⟨congrArg (fun b => Ending.returned (Value.bool b)) ?_, (Below.refl _ W).alloc (Nat.le_refl _) _⟩
                  first | (simp [mayB, *]; done) | (simp [mayB, *]; intros; omega)
                · have h7 : (v.toList == ([] : List UInt8)) = true := by rw [h6]; rfl
                  go_enter Try.func41, Try.ntmps41
                  go_wp2
                  go_ret
                  refine ⟨congrArg (fun b => Ending.returned (Value.bool b)) ?_, (Below.refl _ W).alloc (Nat.le_refl _) _⟩
                  first | (simp [mayB, *]; done) | (simp [mayB, *]; intros; omega)
              · cases gone
                · have h7 : (v.toList == ([] : List UInt8)) = false := beq_eq_false_iff_ne.2 h6
                  go_enter Try.func41, Try.ntmps41
                  go_wp2
                  go_ret
                  refine ⟨congrArg (fun b => Ending.returned (Value.bool b)) ?_, (Below.refl _ W).alloc (Nat.le_refl _) _⟩
                  first | (simp [mayB, *]; done) | (simp [mayB, *]; intros; omega)
                · have h7 : (v.toList == ([] : List UInt8)) = false := beq_eq_false_iff_ne.2 h6
                  go_enter Try.func41, Try.ntmps41
                  go_wp2
                  go_ret
                  refine ⟨congrArg (fun b => Ending.returned (Value.bool b)) ?_, (Below.refl _ W).alloc (Nat.le_refl _) _⟩
                  first | (simp [mayB, *]; done) | (simp [mayB, *]; intros; omega)
            · by_cases h6 : v.toList = []
              · cases gone
                · have h7 : (v.toList == ([] : List UInt8)) = true := by rw [h6]; rfl
                  go_enter Try.func41, Try.ntmps41
                  go_wp2
                  go_ret
                  refine ⟨congrArg (fun b => Ending.returned (Value.bool b)) ?_, (Below.refl _ W).alloc (Nat.le_refl _) _⟩
                  first | (simp [mayB, *]; done) | (simp [mayB, *]; intros; omega)
                · have h7 : (v.toList == ([] : List UInt8)) = true := by rw [h6]; rfl
                  go_enter Try.func41, Try.ntmps41
                  go_wp2
                  go_ret
                  refine ⟨congrArg (fun b => Ending.returned (Value.bool b)) ?_, (Below.refl _ W).alloc (Nat.le_refl _) _⟩
                  first | (simp [mayB, *]; done) | (simp [mayB, *]; intros; omega)
              · cases gone
                · have h7 : (v.toList == ([] : List UInt8)) = false := beq_eq_false_iff_ne.2 h6
                  go_enter Try.func41, Try.ntmps41
                  go_wp2
                  go_ret
                  refine ⟨congrArg (fun b => Ending.returned (Value.bool b)) ?_, (Below.refl _ W).alloc (Nat.le_refl _) _⟩
                  first | (simp [mayB, *]; done) | (simp [mayB, *]; intros; omega)
                · have h7 : (v.toList == ([] : List UInt8)) = false := beq_eq_false_iff_ne.2 h6
                  go_enter Try.func41, Try.ntmps41
                  go_wp2
                  go_ret
                  refine ⟨congrArg (fun b => Ending.returned (Value.bool b)) ?_, (Below.refl _ W).alloc (Nat.le_refl _) _⟩
                  first | (simp [mayB, *]; done) | (simp [mayB, *]; intros; omega)
          · go_enter Try.func41, Try.ntmps41
            go_wp2
            go_ret
            refine ⟨congrArg (fun b => Ending.returned (Value.bool b)) ?_, (Below.refl _ W).alloc (Nat.le_refl _) _⟩
            first | (simp [mayB, *]; done) | (simp [mayB, *]; intros; omega)
        · go_enter Try.func41, Try.ntmps41
          go_wp2
          go_ret
          refine ⟨congrArg (fun b => Ending.returned (Value.bool b)) ?_, (Below.refl _ W).alloc (Nat.le_refl _) _⟩
          first | (simp [mayB, *]; done) | (simp [mayB, *]; intros; omega)
      · go_enter Try.func41, Try.ntmps41
        go_wp2
        go_ret
        refine ⟨congrArg (fun b => Ending.returned (Value.bool b)) ?_, (Below.refl _ W).alloc (Nat.le_refl _) _⟩
        first | (simp [mayB, *]; done) | (simp [mayB, *]; intros; omega)
    · go_enter Try.func41, Try.ntmps41
      go_wp2
      go_ret
      refine ⟨congrArg (fun b => Ending.returned (Value.bool b)) ?_, (Below.refl _ W).alloc (Nat.le_refl _) _⟩
      first | (simp [mayB, *]; done) | (simp [mayB, *]; intros; omega)
  · go_enter Try.func41, Try.ntmps41
    go_wp2
    go_ret
    refine ⟨congrArg (fun b => Ending.returned (Value.bool b)) ?_, (Below.refl _ W).alloc (Nat.le_refl _) _⟩
    first | (simp [mayB, *]; done) | (simp [mayB, *]; intros; omega)
end Go.Proofs.Ytkennobdoldlkaa.PAll
end
section
namespace Go.Proofs.Ytkennobdoldlkaa.PAll
open Go.RowKit Go.Proofs.YtkennobdoldlkaaW.PrintWords Go.Proofs.YtkennobdoldlkaaW.PrintLast Go.Proofs.YtkennobdoldlkaaW.PrintMore
attribute [local go_sem] qz51 qz52 max_two min_two qz45 qz46 qz53 qz54
def rows_named.f (a0 : ByteArray) : Option (Bool) := if (a0.size : Int) ≥ 1 then (some (decide ((a0.size : Int) ≤ 16))) else (some false)
set_option maxHeartbeats 8000000 in
set_option maxRecDepth 100000 in
theorem rows_named.calls (a0 : ByteArray) (r : Bool) (w : World) (h : rows_named.f a0 = some r) :
    Calls Try.prog 54 #[.string a0] w fun e w' => e = .returned (.bool r) ∧ Drawn0 w w' := by
  have H : (if (a0.size : Int) ≥ 1 then (some (decide ((a0.size : Int) ≤ 16))) else (some false)) = some r := h
  clear h
  by_cases c2 : (a0.size : Int) ≥ 1
  · rw [if_pos c2] at H
    have c2b0 : decide (1 ≤ (a0.size : Int)) = true := decide_eq_true c2
    have c2b1 : decide (1 ≤ a0.size) = true := decide_eq_true (by omega)
    clear c2
    obtain rfl := Option.some.inj H
    go_enter Try.func54, Try.ntmps54
    go_wp2
    go_ret
    exact ⟨by first | rfl | (simp; done) | (simp [*]; done), by repeat (first | exact Drawn0.refl _ | apply Drawn0.step)⟩
  · rw [if_neg c2] at H
    have c2b0 : decide (1 ≤ (a0.size : Int)) = false := decide_eq_false c2
    have c2b1 : decide (1 ≤ a0.size) = false := decide_eq_false (by omega)
    clear c2
    obtain rfl := Option.some.inj H
    go_enter Try.func54, Try.ntmps54
    go_wp2
    go_ret
    exact ⟨by first | rfl | (simp; done) | (simp [*]; done), by repeat (first | exact Drawn0.refl _ | apply Drawn0.step)⟩
end Go.Proofs.Ytkennobdoldlkaa.PAll
end
