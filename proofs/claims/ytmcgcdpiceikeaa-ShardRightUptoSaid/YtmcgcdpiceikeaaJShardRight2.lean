/- Joined texts of the claim ShardRight (part 2): contracts of functions and plain laws. -/
import Derived.Deep.MidRow
import Derived.Deep.RegionLaw
import Derived.Laws.CopyOwn
import Derived.Laws.CopyRow
import Derived.Laws.IdiomCopy
import Derived.Lib.AppendZerosOnto
import Derived.Test.YtmcgcdpiceikeaaJShardRight1
section
/- Rows of elements of k cells: copy, clear, append of zeros, as laws for the walk. No program in sight. -/
namespace Go.Proofs.Ytmcgcdpiceikeaa
open Go.RowKit Go.Proofs.YtmcgcdpiceikeaaW.PrintWords
set_option linter.unusedVariables false
set_option linter.unusedSimpArgs false
/-- Elements as their bare cells. -/
def raw (sz : Nat) : Kd (List Value) where
  sz := sz
  E := []
  K := fun _ x cs => cs = x ∧ cs.length = sz ∧ ∀ u ∈ cs, u.oneCell' = true
  M := fun _ _ _ x cs => cs = x ∧ cs.length = sz ∧ ∀ u ∈ cs, u.oneCell' = true
  K_len := fun h => h.2.1
  K_one := fun h => h.2.2
  K_below := fun _ h => h
  K_of_M := fun h => h
  M_mono := fun _ h => h
  M_bound := fun h => h
  M_move := fun _ h => h
  M_lower := fun _ h => h
/-- v owns a row of elements (type e, k cells each) from block base on. -/
def Own (k e : Nat) (w : World) (base : Nat) (v : Value) (css : List (List Value)) : Prop := (∀ c ∈ css, c.length = k ∧ ∀ u ∈ c, u.oneCell' = true) ∧ w.ownsRow base e k v css.length css.flatten
theorem flat_len {k : Nat} : ∀ {css : List (List Value)}, (∀ c ∈ css, c.length = k) → css.flatten.length = css.length * k
  | [], _ => by simp
  | c :: r, h => by
    rw [List.flatten_cons, List.length_append, flat_len (fun c hc => h c (List.mem_cons_of_mem _ hc)), h c List.mem_cons_self, List.length_cons, Nat.add_mul]
    omega
theorem flat_drop {k : Nat} : ∀ {css : List (List Value)} (i : Nat), (∀ c ∈ css, c.length = k) → css.flatten.drop (i * k) = (css.drop i).flatten
  | [], i, _ => by simp
  | c :: r, 0, h => by simp
  | c :: r, i + 1, h => by
    have hc := h c List.mem_cons_self
    rw [List.flatten_cons, List.drop_append, List.drop_succ_cons, hc, show (i + 1) * k - k = i * k by rw [Nat.add_mul]; omega, flat_drop i (fun c hc => h c (List.mem_cons_of_mem _ hc)), List.drop_eq_nil_of_le (by rw [hc, Nat.add_mul]; omega), List.nil_append]
theorem flat_one {css : List (List Value)} {k : Nat} (h : ∀ c ∈ css, c.length = k ∧ ∀ u ∈ c, u.oneCell' = true) : ∀ u ∈ css.flatten, u.oneCell' = true := by
  intro u hu
  obtain ⟨c, hc, hu⟩ := List.mem_flatten.1 hu
  exact (h c hc).2 u hu
theorem reps_flat {k : Nat} {css : List (List Value)} (h : ∀ c ∈ css, c.length = k ∧ ∀ u ∈ c, u.oneCell' = true) : Reps (fun (x : List Value) cs => cs = x ∧ cs.length = k ∧ ∀ u ∈ cs, u.oneCell' = true) k css css.flatten := by
  have hl : ∀ c ∈ css, c.length = k := fun c hc => (h c hc).1
  refine ⟨flat_len hl, fun j p hj => ?_⟩
  have hjl := (List.getElem?_eq_some_iff.1 hj).1
  have hp := List.mem_of_getElem? hj
  have e : (css.flatten.drop (j * k)).take k = p := by
    rw [flat_drop j hl, List.drop_eq_getElem_cons hjl, List.flatten_cons, (List.getElem?_eq_some_iff.1 hj).2, List.take_append, (h p hp).1, Nat.sub_self, List.take_zero, List.append_nil, List.take_of_length_le (by rw [(h p hp).1]; omega)]
  exact ⟨e, by rw [e]; exact (h p hp).1, by rw [e]; exact (h p hp).2⟩
theorem flat_reps {k : Nat} : ∀ {css : List (List Value)} {cs : List Value}, Reps (fun (x : List Value) cs => cs = x ∧ cs.length = k ∧ ∀ u ∈ cs, u.oneCell' = true) k css cs → cs = css.flatten ∧ ∀ c ∈ css, c.length = k ∧ ∀ u ∈ c, u.oneCell' = true := by
  intro css cs h
  have hall : ∀ c ∈ css, c.length = k ∧ ∀ u ∈ c, u.oneCell' = true := fun c hc => by
    obtain ⟨j, hj⟩ := List.mem_iff_getElem?.1 hc
    obtain ⟨e, h1, h2⟩ := h.2 j c hj
    rw [e] at h1 h2
    exact ⟨h1, h2⟩
  refine ⟨?_, hall⟩
  have key : ∀ n, n ≤ css.length → cs.take (n * k) = (css.take n).flatten := by
    intro n
    induction n with
    | zero => intro _; simp
    | succ n ih =>
      intro hn
      obtain ⟨e, _⟩ := h.2 n _ (List.getElem?_eq_getElem (show n < css.length by omega))
      rw [List.take_succ_eq_append_getElem (show n < css.length by omega), List.flatten_append, List.flatten_singleton, ← ih (by omega), Nat.add_mul, Nat.one_mul, List.take_add, e]
  have := key css.length (Nat.le_refl _)
  rwa [List.take_of_length_le (by rw [h.1]; omega), List.take_length] at this
theorem Own.R {k e base : Nat} {w : World} {v : Value} {css : List (List Value)} (h : Own k e w base v css) : Kd.R (raw k) e w base (fun _ => True) v css :=
  ⟨fun _ _ => trivial, css.flatten, h.2, reps_flat h.1⟩
theorem Own.of_R {k e base : Nat} {w : World} {v : Value} {css : List (List Value)} {ok : Nat → Prop} (h : Kd.R (raw k) e w base ok v css) : Own k e w base v css := by
  obtain ⟨_, inner, ho, hr⟩ := h
  obtain ⟨rfl, h2⟩ := flat_reps hr
  exact ⟨h2, ho⟩
theorem Own.sl {k e base : Nat} {w : World} {v : Value} {css : List (List Value)} (h : Own k e w base v css) : Sl (raw k) w v css := Sl.of_R h.R
theorem Own.nil (k e : Nat) (w : World) (base : Nat) : Own k e w base (.slice none 0 0) [] := ⟨by simp, by simp [World.ownsRow]⟩
theorem Own.kept {k e base : Nat} {w w' : World} {v : Value} {css : List (List Value)} {row : Option Nat} (h : Own k e w base v css) (hg : w.grownBy w' row) (hne : ∀ b, v.ownBlock = some b → some b ≠ row) : Own k e w' base v css :=
  ⟨h.1, h.2.kept hg (by cases e : v.ownBlock with
    | none => exact .inl rfl
    | some b => exact .inr (hne b e))⟩
theorem Own.below {k e base : Nat} {w w' : World} {v : Value} {css : List (List Value)} (h : Own k e w base v css) (hb : Below w.heap.size w w') : Own k e w' base v css := Own.of_R (Kd.R_below h.R hb)
theorem Own.lower {k e base base' : Nat} {w : World} {v : Value} {css : List (List Value)} (h : Own k e w base v css) (hb : base' ≤ base) : Own k e w base' v css := Own.of_R (Kd.R_lower h.R hb)
theorem Own.lt {k e base : Nat} {w : World} {v : Value} {css : List (List Value)} (h : Own k e w base v css) : ∀ b, v.ownBlock = some b → b < w.heap.size := Kd.R_lt h.R
theorem Own.base {k e base : Nat} {w : World} {v : Value} {css : List (List Value)} (h : Own k e w base v css) : ∀ b, v.ownBlock = some b → base ≤ b := Kd.R_base h.R
/-- The row laid open: nil, or a block of its own. -/
theorem Own.cases {k e base : Nat} {w : World} {v : Value} {css : List (List Value)} (h : Own k e w base v css) : (v = .slice none 0 0 ∧ css = []) ∨
    ∃ g cap cur, v = .slice (some ⟨g, 0, none⟩) css.length cap ∧ base ≤ g ∧ g < w.heap.size ∧ w.heap[g]? = some (.cells (css.flatten ++ cur).toArray e (0, 0)) ∧ css.length ≤ cap ∧ cap ≤ maxLen ∧ cur.length = (cap - css.length) * k := by
  obtain ⟨h1, hl, h2⟩ := h
  rcases h2 with ⟨rfl, hn⟩ | ⟨g, cap, cur, rfl, hb, hh, hn, hm, hs, ht⟩
  · exact .inl ⟨rfl, List.eq_nil_of_length_eq_zero hn⟩
  · refine .inr ⟨g, cap, cur.toList.drop (css.length * k), rfl, hb, (Array.getElem?_eq_some_iff.1 hh).1, ?_, hn, hm, ?_⟩
    · rw [hh, ← ht, List.take_append_drop, Array.toArray_toList]
    · rw [List.length_drop, Array.length_toList, hs, Nat.sub_mul]
theorem Own.mk {k e base : Nat} {w : World} {css : List (List Value)} {g n cap : Nat} {cur : List Value} (h1 : ∀ c ∈ css, c.length = k ∧ ∀ u ∈ c, u.oneCell' = true) (hb : base ≤ g) (hh : w.heap[g]? = some (.cells (css.flatten ++ cur).toArray e (0, 0))) (hn : n = css.length) (hc : n ≤ cap) (hm : cap ≤ maxLen) (hs : cur.length = (cap - n) * k) :
    Own k e w base (.slice (some ⟨g, 0, none⟩) n cap) css := by
  subst hn
  have hl := flat_len (fun c hc => (h1 c hc).1)
  refine ⟨h1, hl, .inr ⟨g, cap, _, rfl, hb, hh, hc, hm, ?_, ?_⟩⟩
  · simp only [List.size_toArray, List.length_append, hl, hs, ← Nat.add_mul]
    congr 1
    omega
  · simp only [List.toList_toArray]
    rw [List.take_append_of_le_length (by omega), List.take_of_length_le (by omega)]
theorem flat_get {k : Nat} : ∀ {css : List (List Value)} (i q : Nat), (∀ c ∈ css, c.length = k) → q < k → css.flatten[i * k + q]? = css[i]?.bind (fun c => c[q]?)
  | [], i, q, _, _ => by simp
  | c :: r, 0, q, h, hq => by
    have hc := h c List.mem_cons_self
    rw [List.flatten_cons, Nat.zero_mul, Nat.zero_add, List.getElem?_append_left (by omega)]
    rfl
  | c :: r, i + 1, q, h, hq => by
    have hc := h c List.mem_cons_self
    rw [List.flatten_cons, List.getElem?_append_right (by rw [hc, Nat.add_mul]; omega), hc, show (i + 1) * k + q - k = i * k + q by rw [Nat.add_mul]; omega, flat_get i q (fun c hc => h c (List.mem_cons_of_mem _ hc)) hq]
    simp
theorem flat_set {k : Nat} : ∀ {css : List (List Value)} (i q : Nat) (u : Value), (∀ c ∈ css, c.length = k) → q < k → i < css.length → css.flatten.set (i * k + q) u = (css.set i ((css[i]!).set q u)).flatten
  | [], i, q, u, _, _, hi => by simp at hi
  | c :: r, 0, q, u, h, hq, _ => by
    have hc := h c List.mem_cons_self
    rw [List.flatten_cons, Nat.zero_mul, Nat.zero_add, List.set_append_left _ _ (by omega)]
    simp
  | c :: r, i + 1, q, u, h, hq, hi => by
    have hc := h c List.mem_cons_self
    have hi' : i < r.length := by simpa using hi
    rw [List.flatten_cons, List.set_append_right _ _ (by rw [hc, Nat.add_mul]; omega), hc, show (i + 1) * k + q - k = i * k + q by rw [Nat.add_mul]; omega, flat_set i q u (fun c hc => h c (List.mem_cons_of_mem _ hc)) hq hi']
    simp
/-- Typed rows and bare ones: kinds whose cells a function tells. -/
structure Flat {α : Type} (d : Kd α) (k : Nat) (enc : α → List Value) : Prop where
  sz : d.sz = k
  mkM : ∀ w base ok x, d.M w base ok x (enc x)
  kk : ∀ w x, d.K w x (enc x)
  openM : ∀ w base ok x cs, d.M w base ok x cs → cs = enc x
  openK : ∀ w x cs, d.K w x cs → cs = enc x
theorem Flat.one {α : Type} {d : Kd α} {k : Nat} {enc : α → List Value} (F : Flat d k enc) (x : α) : (enc x).length = k ∧ ∀ u ∈ enc x, u.oneCell' = true :=
  ⟨by rw [← F.sz]; exact d.K_len (F.kk default x), d.K_one (F.kk default x)⟩
theorem Flat.all {α : Type} {d : Kd α} {k : Nat} {enc : α → List Value} (F : Flat d k enc) (l : List α) : ∀ c ∈ l.map enc, c.length = k ∧ ∀ u ∈ c, u.oneCell' = true := by
  intro c hc
  obtain ⟨x, _, rfl⟩ := List.mem_map.1 hc
  exact F.one x
theorem Flat.R {α : Type} {d : Kd α} {k : Nat} {enc : α → List Value} (F : Flat d k enc) {e base : Nat} {w : World} {v : Value} {l : List α} {ok : Nat → Prop} (h : Own k e w base v (l.map enc)) (hok : ∀ b, v.ownBlock = some b → ok b) : Kd.R d e w base ok v l := by
  refine ⟨hok, (l.map enc).flatten, ?_, ?_⟩
  · have := h.2
    rw [List.length_map] at this
    rw [F.sz]; exact this
  · have hr := reps_flat h.1
    rw [F.sz]
    refine ⟨by rw [hr.1, List.length_map], fun j p hj => ?_⟩
    have := (hr.2 j (enc p) (by rw [List.getElem?_map, hj]; rfl)).1
    rw [this]
    exact F.mkM _ _ _ _
theorem Flat.own {α : Type} {d : Kd α} {k : Nat} {enc : α → List Value} (F : Flat d k enc) {e base : Nat} {w : World} {v : Value} {l : List α} {ok : Nat → Prop} (h : Kd.R d e w base ok v l) : Own k e w base v (l.map enc) := by
  obtain ⟨_, inner, ho, hr⟩ := h
  rw [F.sz] at ho hr
  have hr' : Reps (fun (x : List Value) cs => cs = x ∧ cs.length = k ∧ ∀ u ∈ cs, u.oneCell' = true) k (l.map enc) inner := by
    refine ⟨by rw [hr.1, List.length_map], fun j p hj => ?_⟩
    rw [List.getElem?_map] at hj
    obtain ⟨x, hx, rfl⟩ := Option.map_eq_some_iff.1 hj
    have := F.openM _ _ _ _ _ (hr.2 j x hx)
    rw [this]
    exact ⟨rfl, F.one x⟩
  obtain ⟨rfl, h2⟩ := flat_reps hr'
  refine ⟨h2, ?_⟩
  rw [List.length_map]
  exact ho
theorem Flat.sl {α : Type} {d : Kd α} {k : Nat} {enc : α → List Value} (F : Flat d k enc) {w : World} {v : Value} {l : List α} (h : Sl d w v l) : Sl (raw k) w v (l.map enc) := by
  obtain ⟨A, c, rfl, hc, h⟩ := h
  refine ⟨A, c, by rw [List.length_map], by rw [List.length_map]; exact hc, by rw [List.length_map], by rw [List.length_map]; exact h.2.1, fun hn => ?_⟩
  obtain ⟨ad, e, hcell⟩ := h.2.2 (by rw [List.length_map] at hn; exact hn)
  refine ⟨ad, e, fun j p hj => ?_⟩
  rw [List.getElem?_map] at hj
  obtain ⟨x, hx, rfl⟩ := Option.map_eq_some_iff.1 hj
  obtain ⟨cs, hl, hK, hcc⟩ := hcell j x hx
  obtain rfl := F.openK _ _ _ hK
  exact ⟨enc x, (F.one x).1, ⟨rfl, F.one x⟩, fun i u hu => by have := hcc i u hu; rwa [F.sz] at this⟩
theorem Flat.ofsl {α : Type} {d : Kd α} {k : Nat} {enc : α → List Value} (F : Flat d k enc) {w : World} {v : Value} {l : List α} (h : Sl (raw k) w v (l.map enc)) : Sl d w v l := by
  obtain ⟨A, c, rfl, hc, h⟩ := h
  rw [List.length_map] at hc h
  refine ⟨A, c, by rw [List.length_map], hc, rfl, h.2.1, fun hn => ?_⟩
  obtain ⟨ad, e, hcell⟩ := h.2.2 hn
  refine ⟨ad, e, fun j p hj => ?_⟩
  obtain ⟨cs, hl, hK, hcc⟩ := hcell j (enc p) (by rw [List.getElem?_map, hj]; rfl)
  obtain ⟨rfl, _, _⟩ := hK
  exact ⟨enc p, by rw [F.sz]; exact hl, F.kk _ _, fun i u hu => by have := hcc i u hu; rwa [F.sz]⟩
theorem ownBlock_slice (A : Option Addr) (n c : Nat) : (Value.slice A n c).ownBlock = A.map (·.block) := by cases A <;> rfl
theorem grownBy_setRow (w : World) (g : Nat) (cs : Array Value) : w.grownBy (w.setRow g cs) (some g) := ⟨rfl, rfl, rfl, by simp, fun k _ hk => setRow_other w g k cs (fun e => hk (by rw [e]))⟩
theorem splice_insert {α : Type} (A B C c : List α) (hc : c.length ≤ C.length) : splice (splice (A ++ B ++ C) (A.length + c.length) B) A.length c = A ++ c ++ B ++ C.drop c.length := by
  have e1 : (A ++ B ++ C).drop (A.length + c.length + B.length) = C.drop c.length := by
    rw [show A.length + c.length + B.length = (A ++ B).length + c.length by simp only [List.length_append]; omega, ← List.drop_drop, List.drop_left]
  have e2 : ((A ++ B ++ C).take (A.length + c.length) ++ (B ++ C.drop c.length)).drop (A.length + c.length) = B ++ C.drop c.length := by
    rw [List.drop_append_of_le_length (by simp <;> omega), List.drop_eq_nil_of_le (by simp <;> omega), List.nil_append]
  have e3 : ((A ++ B ++ C).take (A.length + c.length) ++ (B ++ C.drop c.length)).take A.length = A := by
    rw [List.take_append_of_le_length (by simp <;> omega), List.take_take, Nat.min_eq_left (by omega), List.append_assoc, List.take_left]
  unfold splice
  rw [e1, e2, e3]
  simp
theorem splice_two {α : Type} (A Z c B : List α) (hz : Z.length = c.length + B.length) (R : List α) : splice (splice (A ++ Z ++ R) A.length c) (A.length + c.length) B = A ++ c ++ B ++ R := by
  have e1 : (A ++ Z ++ R).drop (A.length + c.length) = Z.drop c.length ++ R := by
    rw [← List.drop_drop, List.append_assoc, List.drop_left, List.drop_append_of_le_length (by omega)]
  have e0 : (A ++ Z ++ R).take A.length = A := by rw [List.append_assoc, List.take_left]
  have e2 : (A ++ (c ++ (Z.drop c.length ++ R))).drop (A.length + c.length + B.length) = R := by
    rw [show A ++ (c ++ (Z.drop c.length ++ R)) = (A ++ c ++ Z.drop c.length) ++ R by simp, show A.length + c.length + B.length = (A ++ c ++ Z.drop c.length).length by simp only [List.length_append, List.length_drop]; omega, List.drop_left]
  have e3 : (A ++ (c ++ (Z.drop c.length ++ R))).take (A.length + c.length) = A ++ c := by
    rw [← List.append_assoc, show A.length + c.length = (A ++ c).length by simp, List.take_left]
  unfold splice
  rw [e0, e1, e2, e3]
  simp
/-- DeleteFunc's round that keeps an element; one that doesn't; its end. -/
theorem splice_keep {α : Type} (A mid c R : List α) : splice (A ++ mid ++ (c ++ R)) A.length c = A ++ c ++ (mid ++ c).drop c.length ++ R := by
  have e0 : (A ++ mid ++ (c ++ R)).take A.length = A := by rw [List.append_assoc, List.take_left]
  have e1 : (A ++ mid ++ (c ++ R)).drop (A.length + c.length) = (mid ++ c).drop c.length ++ R := by
    rw [← List.drop_drop, List.append_assoc, List.drop_left, ← List.append_assoc, List.drop_append_of_le_length (by simp)]
  unfold splice
  rw [e0, e1]
  simp
theorem splice_end {α : Type} (A mid R z : List α) (h : z.length = mid.length) : splice (A ++ mid ++ R) A.length z = A ++ (z ++ R) := by
  unfold splice
  rw [h, List.append_assoc, List.take_left, ← List.drop_drop, List.drop_left, List.drop_left]
theorem splice_all {α : Type} {A c : List α} (h : A.length = c.length) : splice A 0 c = c := by unfold splice; rw [Nat.zero_add, ← h]; simp
theorem zeroCells_size (z : Array Value) (m : Nat) : (Builtin.zeroCells z m).size = m * z.size := by simp [Builtin.zeroCells]
theorem rows2 {w w' : World} {g : Nat} {a b old : Array Value} {e : TypeId} (h : w.heap[g]? = some (.cells old e (0, 0))) (hw : w'.heap = ((w.setRow g a).setRow g b).heap) (h1 : w'.os = w.os) (h2 : w'.tape = w.tape) (h3 : w'.output = w.output) :
    w'.heap[g]? = some (.cells b e (0, 0)) ∧ w.grownBy w' (some g) := by
  rw [setRow_setRow] at hw
  refine ⟨by rw [hw]; exact setRow_heap w g old b e _ h, h1, h2, h3, by rw [hw]; simp, fun k _ hk => by rw [hw]; exact setRow_other w g k b (fun e => hk (by rw [e]))⟩
theorem rows1 {w w' : World} {g : Nat} {b old : Array Value} {e : TypeId} (h : w.heap[g]? = some (.cells old e (0, 0))) (hw : w'.heap = (w.setRow g b).heap) (h1 : w'.os = w.os) (h2 : w'.tape = w.tape) (h3 : w'.output = w.output) :
    w'.heap[g]? = some (.cells b e (0, 0)) ∧ w.grownBy w' (some g) :=
  ⟨by rw [hw]; exact setRow_heap w g old b e _ h, h1, h2, h3, by rw [hw]; simp, fun k _ hk => by rw [hw]; exact setRow_other w g k b (fun e => hk (by rw [e]))⟩
theorem grown_new1 {w w' : World} {o : Obj} {row : Option Nat} (h : (w.alloc o).grownBy w' (some w.heap.size)) : w.grownBy w' row := by
  have hs : (w.alloc o).heap.size = w.heap.size + 1 := by simp
  exact ⟨h.os, h.tape, h.output, by have := h.size; omega, fun k hk _ => (h.block k (by omega) (by simp; omega)).trans (Below.heap_alloc w o k hk)⟩
theorem grown_new {w W1 w' : World} {o : Obj} {row : Option Nat} (hW : W1 = w.drew.alloc o) (h : W1.grownBy w' (some w.heap.size)) : w.grownBy w' row := by
  subst hW
  have hs : (w.drew.alloc o).heap.size = w.heap.size + 1 := by show (w.heap.push o).size = _; simp
  exact ⟨h.os, h.tape, h.output, by have := h.size; omega, fun k hk _ => (h.block k (by omega) (by simp; omega)).trans (Below.heap_alloc w.drew o k hk)⟩
section
variable {P : Program}
/-- What stands in a row, from the k-th cell on. -/
theorem cell_row {w : World} {g : Nat} {cs : List Value} {e : TypeId} (h : w.heap[g]? = some (.cells cs.toArray e (0, 0))) (j : Nat) : w.cell? ⟨g, j, none⟩ = cs[j]? := by
  simp [World.cell?, h]
theorem frozen_row {w : World} {g : Nat} {cs : Array Value} {e : TypeId} (h : w.heap[g]? = some (.cells cs e (0, 0))) (j : Nat) : w.frozen? ⟨g, j, none⟩ = false := by
  simp [World.frozen?, h]
theorem gate_builtin {ops : Array Oper} {rest : List Oper} {o : Oper} {a : Act} {Q : Exit → Act → World → Prop} {W : World} {b : Builtin} {xs : Array Operand} {ts : Array TypeId} (_ho : o.op = .call { callee := .builtin b, args := xs, argTypes := ts }) (h : wpList P ops Q (o :: rest) a W) : wpList P ops Q (o :: rest) a W := h
theorem Own.get {k e base : Nat} {w : World} {g n cap : Nat} {css : List (List Value)} (h : Own k e w base (.slice (some ⟨g, 0, none⟩) n cap) css) (i q : Nat) (hi : i < css.length) (hq : q < k) :
    w.cell? ⟨g, i * k + q, none⟩ = some ((css[i]!)[q]!) ∧ w.frozen? ⟨g, i * k + q, none⟩ = false ∧ w.heap[g]?.isSome := by
  have hk := fun c hc => (h.1 c hc).1
  rcases h.cases with ⟨e, _⟩ | ⟨g', cap', cur, e, _, _, hh, _⟩
  · cases e
  · cases e
    refine ⟨?_, frozen_row hh _, by rw [hh]; rfl⟩
    have hx := flat_get i q hk hq
    have hci := hk _ (List.getElem_mem hi)
    rw [cell_row hh, List.getElem?_append_left (by rw [flat_len hk]; have := Nat.mul_le_mul_right k (show i + 1 ≤ css.length by omega); rw [Nat.add_mul] at this; omega), hx, List.getElem?_eq_getElem hi, getElem!_pos css i hi, getElem!_pos (css[i]) q (by omega)]
    simp [List.getElem?_eq_getElem (show q < (css[i]).length by omega)]
theorem Own.store {k e base : Nat} {w : World} {g n cap : Nat} {css : List (List Value)} (h : Own k e w base (.slice (some ⟨g, 0, none⟩) n cap) css) (i q : Nat) (hi : i < css.length) (hq : q < k) (u : Value) (hu : u.oneCell' = true) :
    Own k e (w.setCell ⟨g, i * k + q, none⟩ u) base (.slice (some ⟨g, 0, none⟩) n cap) (css.set i ((css[i]!).set q u)) ∧ w.grownBy (w.setCell ⟨g, i * k + q, none⟩ u) (some g) := by
  have hk := fun c hc => (h.1 c hc).1
  rcases h.cases with ⟨e, _⟩ | ⟨g', cap', cur, e, hb, _, hh, hn, hm, hl⟩
  · cases e
  · cases e
    rw [setCell_eq_setRow w g _ _ _ _ u hh]
    refine ⟨?_, grownBy_setRow w g _⟩
    have hlt : i * k + q < css.flatten.length := by rw [flat_len hk]; have := Nat.mul_le_mul_right k (show i + 1 ≤ css.length by omega); rw [Nat.add_mul] at this; omega
    refine Own.mk (cur := cur) ?_ hb ?_ (by rw [List.length_set]) hn hm hl
    · intro c hc
      rcases List.mem_or_eq_of_mem_set hc with hc | rfl
      · exact h.1 c hc
      · have hci := h.1 _ (List.getElem_mem hi)
        rw [getElem!_pos css i hi]
        refine ⟨by rw [List.length_set]; exact hci.1, fun v hv => ?_⟩
        rcases List.mem_or_eq_of_mem_set hv with hv | rfl
        · exact hci.2 v hv
        · exact hu
    · rw [setRow_heap w g _ _ _ _ hh, ← flat_set i q u hk hq hi]
      congr 2
      apply Array.ext'
      simp [List.set_append_left _ _ hlt]
theorem range_row {w : World} {g : Nat} {A cs B : List Value} {e : TypeId} {o : Nat} (h : w.heap[g]? = some (.cells (A ++ (cs ++ B)).toArray e (0, 0))) (ho : A.length = o) : w.rangeAt g o cs := fun j v hj => by
  rw [cell_row h, List.getElem?_append_right (by omega), show o + j - A.length = j by omega, List.getElem?_append_left (List.getElem?_eq_some_iff.1 hj).1]
  exact hj
/-- A whole element is stored into a row that is known whole; the world behind it is a variable. -/
theorem wpList_store_k {ops : Array Oper} {rest : List Oper} {op : Oper} {a : Act} {w : World} {Q : Exit → Act → World → Prop} (hgd : op.guard = none) (ty : TypeId) (x y : Operand) (ho : op.op = .store ty x y)
    (g o : Nat) (cur cs : List Value) (e : TypeId) (hx : a.eval x = .pointer (some ⟨g, o, none⟩)) (hy : a.eval y = .agg cs.toArray) (hh : w.heap[g]? = some (.cells cur.toArray e (0, 0))) (hfit : o + cs.length ≤ cur.length)
    (hi : (P.info? ty).map (·.size) = some cs.length) (h1 : ∀ v ∈ cs, v.oneCell' = true)
    (h : ∀ w', w'.heap[g]? = some (.cells (splice cur o cs).toArray e (0, 0)) → w.grownBy w' (some g) → wpList P ops Q rest (a.put op.dst undef) w') : wpList P ops Q (op :: rest) a w := by
  refine wpList_plain hgd fun K hK => ?_
  have hst := run_storeCells_at (P := P) g o e cs 0 cur.toArray w hh (by simpa using hfit) h1
  simp only [Nat.add_zero, List.toList_toArray] at hst
  have hrun : (storeVar ty ⟨g, o, none⟩ (.agg cs.toArray)).run P w = .ok () (w.setRow g (splice cur o cs).toArray) := by
    cases hq : P.info? ty with
    | none => simp [hq] at hi
    | some i =>
      have hs : cs.length = i.size := by simp [hq] at hi; omega
      simp [storeVar, sizeOf, typeInfo, hq, Value.cells, hs, hst, splice]
  unfold Oper.wp execOp
  simp only [ho, hx, hy, Instr.storeAt, Instr.sureAddr, Sem.run_bind, Sem.run_pure, Result.andThen_ok, hrun]
  obtain ⟨r1, r2⟩ := rows1 (w := w) (w' := w.setRow g (splice cur o cs).toArray) hh rfl rfl rfl rfl
  exact hK _ _ (h _ r1 r2)
/-- clear, of a part of a row that is known whole. -/
theorem wpList_clear_k {ops : Array Oper} {rest : List Oper} {op : Oper} {a : Act} {w : World} {Q : Exit → Act → World → Prop} (hgd : op.guard = none) (s : Operand) (t elem : TypeId) (z : Value) (k : Nat)
    (ho : op.op = .call { callee := .builtin .clear, args := #[s], argTypes := #[t] }) (hu : P.underlying t = some (.slice elem)) {bs : Nat} (hinfo : (P.info? elem).map (fun i => (i.zero, i.size, i.bytes)) = some (some z, k, bs)) (hz : z.cells.size = k) (hz1 : ∀ u ∈ z.cells.toList, u.oneCell' = true)
    (g o m c : Nat) (cur : List Value) (e : TypeId) (hx : a.eval s = .slice (some ⟨g, o, none⟩) m c) (hm : 0 < m) (hh : w.heap[g]? = some (.cells cur.toArray e (0, 0))) (hfit : o + m * k ≤ cur.length)
    (h : ∀ w' zs, zs.length = m * k → w'.heap[g]? = some (.cells (splice cur o zs).toArray e (0, 0)) → w.grownBy w' (some g) → wpList P ops Q rest (a.put op.dst (.tuple #[])) w') : wpList P ops Q (op :: rest) a w := by
  refine wpList_plain hgd fun K hK => ?_
  obtain ⟨i0, hi, hzz⟩ := Option.map_eq_some_iff.1 hinfo
  simp only [Prod.mk.injEq] at hzz
  obtain ⟨hz0, -, -⟩ := hzz
  have hzl : (Builtin.zeroCells z.cells m).toList.length = m * k := by rw [Array.length_toList, zeroCells_size, hz]
  have hone : ∀ v ∈ (Builtin.zeroCells z.cells m).toList, v.oneCell' = true := by
    intro v hv
    rw [Array.mem_toList_iff, Builtin.zeroCells, Array.mem_map] at hv
    obtain ⟨j, hj, rfl⟩ := hv
    have hj' : j < m * z.cells.size := by simpa using hj
    have hp : 0 < z.cells.size := by
      rcases Nat.eq_zero_or_pos z.cells.size with h0 | h0
      · rw [h0] at hj'; omega
      · exact h0
    refine hz1 _ ?_
    rw [getElem!_pos z.cells _ (Nat.mod_lt _ hp)]
    simp
  have hst := run_storeCells_at (P := P) g o e (Builtin.zeroCells z.cells m).toList 0 cur.toArray w hh (by simpa [hzl] using hfit) hone
  simp only [Nat.add_zero, List.toList_toArray] at hst
  have hm0 : m ≠ 0 := by omega
  have hrun : (Builtin.clear_ #[t] op.type #[.slice (some ⟨g, o, none⟩) m c]).run P w = .ok (.tuple #[]) (w.setRow g (splice cur o (Builtin.zeroCells z.cells m).toList).toArray) := by
    obtain ⟨m', rfl⟩ : ∃ m', m = m' + 1 := ⟨m - 1, by omega⟩
    simp [Builtin.clear_, run_underlying hu, zeroValue, typeInfo, hi, hz0, hst, splice]
  unfold Oper.wp execOp
  simp only [ho, resolve, invoke, builtin, Sem.run_bind, Sem.run_pure, Result.andThen_ok, List.map_toArray, List.map_cons, List.map_nil, hx, hrun]
  obtain ⟨r1, r2⟩ := rows1 (w := w) (w' := w.setRow g (splice cur o (Builtin.zeroCells z.cells m).toList).toArray) hh rfl rfl rfl rfl
  exact hK _ _ (h _ _ hzl r1 r2)
/-- copy: n elements of k cells each, out of wherever, into a row that is known whole. -/
theorem run_copy_k (w : World) (dT sT ty elem : TypeId) (k n : Nat) (g o dLen dCap : Nat) (a : Addr) (sLen sCap : Nat) (cur cs : List Value) (e : TypeId)
    (hu : P.underlying dT = some (.slice elem)) (hs : (P.info? elem).map (·.size) = some k) (hn : n = Nat.min sLen dLen) (hl : cs.length = n * k) (hh : w.heap[g]? = some (.cells cur.toArray e (0, 0))) (hfit : o + cs.length ≤ cur.length)
    (hsrc : ∀ j v, cs[j]? = some v → w.cell? (a.add j) = some v) (h1 : ∀ v ∈ cs, v.oneCell' = true) :
    (Builtin.copy_ #[dT, sT] ty #[.slice (some ⟨g, o, none⟩) dLen dCap, .slice (some a) sLen sCap]).run P w = .ok (goInt n) (w.setRow g (splice cur o cs).toArray) := by
  have hld := run_loadCells_list (P := P) w a cs hsrc
  have hst := run_storeCells_at (P := P) g o e cs 0 cur.toArray w hh (by simpa using hfit) h1
  rw [hl] at hld
  cases hq : P.info? elem with
  | none => simp [hq] at hs
  | some i =>
    have hi : i.size = k := by simpa [hq] using hs
    simp only [Nat.add_zero, List.toList_toArray] at hst
    simp [Builtin.copy_, run_underlying hu, Builtin.lenOf, Builtin.firstCells, sizeOf, typeInfo, hq, hi, ← hn, hld, hst, splice]
theorem wp_copy_run (w : World) {o : Oper} {a : Act} {K : Act → World → Prop} {Q : Exit → Act → World → Prop} (d s : Operand) (t t' : TypeId)
    (ho : o.op = .call { callee := .builtin .copy, args := #[d, s], argTypes := #[t, t'] }) (v u : Value) (hd : a.eval d = v) (hs : a.eval s = u) {v' : Value} {w' : World}
    (hr : (Builtin.copy_ #[t, t'] o.type #[v, u]).run P w = .ok v' w') (h : K (a.put o.dst v') w') : o.wp P a w K Q := by
  unfold Oper.wp execOp
  simp only [ho, resolve, invoke, builtin, Sem.run_bind, Sem.run_pure, Result.andThen_ok, List.map_toArray, List.map_cons, List.map_nil, hd, hs, hr]
  exact h
theorem wpList_copy_run (w : World) {ops : Array Oper} {rest : List Oper} {o : Oper} {a : Act} {Q : Exit → Act → World → Prop} (hgd : o.guard = none) (d s : Operand) (t t' : TypeId)
    (ho : o.op = .call { callee := .builtin .copy, args := #[d, s], argTypes := #[t, t'] }) (v u : Value) (hd : a.eval d = v) (hs : a.eval s = u) {v' : Value} {w' : World}
    (hr : (Builtin.copy_ #[t, t'] o.type #[v, u]).run P w = .ok v' w') (h : wpList P ops Q rest (a.put o.dst v') w') : wpList P ops Q (o :: rest) a w :=
  wpList_plain hgd fun _ hK => wp_copy_run w d s t t' ho v u hd hs hr (hK _ _ h)
theorem step_copy_run {ops : Array Oper} {o : Oper} {a : Act} {w : World} {K : Act → World → Prop} {Q : Exit → Act → World → Prop} {E : Prop}
    (hg : o.guard = none) (d x : Operand) (dT sT : TypeId) (hop : o.op = Op.call { callee := Callee.builtin Builtin.copy, args := #[d, x], argTypes := #[dT, sT] })
    (v u : Value) (hd : a.eval d = v) (hx : a.eval x = u) {v' : Value} {w' : World} (hr : (Builtin.copy_ #[dT, sT] o.type #[v, u]).run P w = .ok v' w') (hK : K (a.put o.dst v') w') :
    if Region.wanted o (yielded ops a.tmps) = true then Oper.wp P o a w K Q else E := by
  have hw : Region.wanted o (yielded ops a.tmps) = true := by simp [Region.wanted, hg]
  rw [if_pos hw]
  unfold Oper.wp
  simp [execOp, hop, resolve, invoke, builtin, hd, hx, hr, Result.andThen]
  exact hK
theorem C_one {k g : Nat} {w : World} {e : TypeId} {c : List Value} (F : c.length = k ∧ ∀ u ∈ c, u.oneCell' = true) (hh : w.heap[g]? = some (.cells c.toArray e (0, 0))) : Kd.C (raw k) w (some ⟨g, 0, none⟩) 1 [c] := by
  refine ⟨rfl, by omega, fun _ => ⟨_, rfl, fun j p hj => ?_⟩⟩
  have h0 : j = 0 := by have := (List.getElem?_eq_some_iff.1 hj).1; simp at this; omega
  subst h0
  obtain rfl : c = p := by simpa using hj
  refine ⟨c, F.1, ⟨rfl, F⟩, fun q u hu => ?_⟩
  rw [Nat.zero_mul, Nat.zero_add, Addr.add_lit, Nat.zero_add, cell_row hh]
  exact hu
end
end Go.Proofs.Ytmcgcdpiceikeaa
end
