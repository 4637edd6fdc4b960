/- Joined texts of the claim DriveSteps (part 2): contracts of functions and plain laws. -/
import Derived.Deep.MidRow
import Derived.Deep.RegionLaw
import Derived.Laws.CopyOwn
import Derived.Laws.CopyRow
import Derived.Laws.IdiomCopy
import Derived.Lib.AppendZerosOnto
import Derived.Test.YtkennobdoldlkaaJDriveSteps1
set_option linter.unusedVariables false
set_option linter.unusedSimpArgs false
section
namespace Go.Proofs.Ytkennobdoldlkaa
open Go.RowKit Go.Proofs.YtkennobdoldlkaaW.PrintWords
def raw (sz : Nat) : Kd (List Value) where
  sz := sz
  E := []
  K := fun _ x cs => cs = x ∧ cs.length = sz ∧ ∀ u ∈ cs, u.oneCell' = true
  M := fun _ _ _ x cs => cs = x ∧ cs.length = sz ∧ ∀ u ∈ cs, u.oneCell' = true
  K_len := fun h => h.2.1
  K_one := fun h => h.2.2
  K_below := fun _ h => h
  K_of_M := fun h => h
  M_mono := fun _ h => h
  M_bound := fun h => h
  M_move := fun _ h => h
  M_lower := fun _ h => h
def Own (k e : Nat) (w : World) (base : Nat) (v : Value) (css : List (List Value)) : Prop := (∀ c ∈ css, c.length = k ∧ ∀ u ∈ c, u.oneCell' = true) ∧ w.ownsRow base e k v css.length css.flatten
theorem flat_len {k : Nat} : ∀ {css : List (List Value)}, (∀ c ∈ css, c.length = k) → css.flatten.length = css.length * k
  | [], _ => by simp
  | c :: r, h => by
    rw [List.flatten_cons, List.length_append, flat_len (fun c hc => h c (List.mem_cons_of_mem _ hc)), h c List.mem_cons_self, List.length_cons, Nat.add_mul]
    omega
theorem flat_drop {k : Nat} : ∀ {css : List (List Value)} (i : Nat), (∀ c ∈ css, c.length = k) → css.flatten.drop (i * k) = (css.drop i).flatten
  | [], i, _ => by simp
  | c :: r, 0, h => by simp
  | c :: r, i + 1, h => by
    have hc := h c List.mem_cons_self
    rw [List.flatten_cons, List.drop_append, List.drop_succ_cons, hc, show (i + 1) * k - k = i * k by rw [Nat.add_mul]; omega, flat_drop i (fun c hc => h c (List.mem_cons_of_mem _ hc)), List.drop_eq_nil_of_le (by rw [hc, Nat.add_mul]; omega), List.nil_append]
theorem reps_flat {k : Nat} {css : List (List Value)} (h : ∀ c ∈ css, c.length = k ∧ ∀ u ∈ c, u.oneCell' = true) : Reps (fun (x : List Value) cs => cs = x ∧ cs.length = k ∧ ∀ u ∈ cs, u.oneCell' = true) k css css.flatten := by
  have hl : ∀ c ∈ css, c.length = k := fun c hc => (h c hc).1
  refine ⟨flat_len hl, fun j p hj => ?_⟩
  have hjl := (List.getElem?_eq_some_iff.1 hj).1
  have hp := List.mem_of_getElem? hj
  have e : (css.flatten.drop (j * k)).take k = p := by
    rw [flat_drop j hl, List.drop_eq_getElem_cons hjl, List.flatten_cons, (List.getElem?_eq_some_iff.1 hj).2, List.take_append, (h p hp).1, Nat.sub_self, List.take_zero, List.append_nil, List.take_of_length_le (by rw [(h p hp).1]; omega)]
  exact ⟨e, by rw [e]; exact (h p hp).1, by rw [e]; exact (h p hp).2⟩
theorem flat_reps {k : Nat} : ∀ {css : List (List Value)} {cs : List Value}, Reps (fun (x : List Value) cs => cs = x ∧ cs.length = k ∧ ∀ u ∈ cs, u.oneCell' = true) k css cs → cs = css.flatten ∧ ∀ c ∈ css, c.length = k ∧ ∀ u ∈ c, u.oneCell' = true := by
  intro css cs h
  have hall : ∀ c ∈ css, c.length = k ∧ ∀ u ∈ c, u.oneCell' = true := fun c hc => by
    obtain ⟨j, hj⟩ := List.mem_iff_getElem?.1 hc
    obtain ⟨e, h1, h2⟩ := h.2 j c hj
    rw [e] at h1 h2
    exact ⟨h1, h2⟩
  refine ⟨?_, hall⟩
  have key : ∀ n, n ≤ css.length → cs.take (n * k) = (css.take n).flatten := by
    intro n
    induction n with
    | zero => intro _; simp
    | succ n ih =>
      intro hn
      obtain ⟨e, _⟩ := h.2 n _ (List.getElem?_eq_getElem (show n < css.length by omega))
      rw [List.take_succ_eq_append_getElem (show n < css.length by omega), List.flatten_append, List.flatten_singleton, ← ih (by omega), Nat.add_mul, Nat.one_mul, List.take_add, e]
  have := key css.length (Nat.le_refl _)
  rwa [List.take_of_length_le (by rw [h.1]; omega), List.take_length] at this
theorem Own.R {k e base : Nat} {w : World} {v : Value} {css : List (List Value)} (h : Own k e w base v css) : Kd.R (raw k) e w base (fun _ => True) v css :=
  ⟨fun _ _ => trivial, css.flatten, h.2, reps_flat h.1⟩
theorem Own.of_R {k e base : Nat} {w : World} {v : Value} {css : List (List Value)} {ok : Nat → Prop} (h : Kd.R (raw k) e w base ok v css) : Own k e w base v css := by
  obtain ⟨_, inner, ho, hr⟩ := h
  obtain ⟨rfl, h2⟩ := flat_reps hr
  exact ⟨h2, ho⟩
theorem Own.sl {k e base : Nat} {w : World} {v : Value} {css : List (List Value)} (h : Own k e w base v css) : Sl (raw k) w v css := Sl.of_R h.R
theorem Own.nil (k e : Nat) (w : World) (base : Nat) : Own k e w base (.slice none 0 0) [] := ⟨by simp, by simp [World.ownsRow]⟩
theorem Own.kept {k e base : Nat} {w w' : World} {v : Value} {css : List (List Value)} {row : Option Nat} (h : Own k e w base v css) (hg : w.grownBy w' row) (hne : ∀ b, v.ownBlock = some b → some b ≠ row) : Own k e w' base v css :=
  ⟨h.1, h.2.kept hg (by cases e : v.ownBlock with
    | none => exact .inl rfl
    | some b => exact .inr (hne b e))⟩
theorem Own.below {k e base : Nat} {w w' : World} {v : Value} {css : List (List Value)} (h : Own k e w base v css) (hb : Below w.heap.size w w') : Own k e w' base v css := Own.of_R (Kd.R_below h.R hb)
theorem Own.lower {k e base base' : Nat} {w : World} {v : Value} {css : List (List Value)} (h : Own k e w base v css) (hb : base' ≤ base) : Own k e w base' v css := Own.of_R (Kd.R_lower h.R hb)
theorem Own.lt {k e base : Nat} {w : World} {v : Value} {css : List (List Value)} (h : Own k e w base v css) : ∀ b, v.ownBlock = some b → b < w.heap.size := Kd.R_lt h.R
theorem Own.base {k e base : Nat} {w : World} {v : Value} {css : List (List Value)} (h : Own k e w base v css) : ∀ b, v.ownBlock = some b → base ≤ b := Kd.R_base h.R
theorem Own.cases {k e base : Nat} {w : World} {v : Value} {css : List (List Value)} (h : Own k e w base v css) : (v = .slice none 0 0 ∧ css = []) ∨
    ∃ g cap cur, v = .slice (some ⟨g, 0, none⟩) css.length cap ∧ base ≤ g ∧ g < w.heap.size ∧ w.heap[g]? = some (.cells (css.flatten ++ cur).toArray e (0, 0)) ∧ css.length ≤ cap ∧ cap ≤ maxLen ∧ cur.length = (cap - css.length) * k := by
  obtain ⟨h1, hl, h2⟩ := h
  rcases h2 with ⟨rfl, hn⟩ | ⟨g, cap, cur, rfl, hb, hh, hn, hm, hs, ht⟩
  · exact .inl ⟨rfl, List.eq_nil_of_length_eq_zero hn⟩
  · refine .inr ⟨g, cap, cur.toList.drop (css.length * k), rfl, hb, (Array.getElem?_eq_some_iff.1 hh).1, ?_, hn, hm, ?_⟩
    · rw [hh, ← ht, List.take_append_drop, Array.toArray_toList]
    · rw [List.length_drop, Array.length_toList, hs, Nat.sub_mul]
theorem Own.mk {k e base : Nat} {w : World} {css : List (List Value)} {g n cap : Nat} {cur : List Value} (h1 : ∀ c ∈ css, c.length = k ∧ ∀ u ∈ c, u.oneCell' = true) (hb : base ≤ g) (hh : w.heap[g]? = some (.cells (css.flatten ++ cur).toArray e (0, 0))) (hn : n = css.length) (hc : n ≤ cap) (hm : cap ≤ maxLen) (hs : cur.length = (cap - n) * k) :
    Own k e w base (.slice (some ⟨g, 0, none⟩) n cap) css := by
  subst hn
  have hl := flat_len (fun c hc => (h1 c hc).1)
  refine ⟨h1, hl, .inr ⟨g, cap, _, rfl, hb, hh, hc, hm, ?_, ?_⟩⟩
  · simp only [List.size_toArray, List.length_append, hl, hs, ← Nat.add_mul]
    congr 1
    omega
  · simp only [List.toList_toArray]
    rw [List.take_append_of_le_length (by omega), List.take_of_length_le (by omega)]
theorem flat_get {k : Nat} : ∀ {css : List (List Value)} (i q : Nat), (∀ c ∈ css, c.length = k) → q < k → css.flatten[i * k + q]? = css[i]?.bind (fun c => c[q]?)
  | [], i, q, _, _ => by simp
  | c :: r, 0, q, h, hq => by
    have hc := h c List.mem_cons_self
    rw [List.flatten_cons, Nat.zero_mul, Nat.zero_add, List.getElem?_append_left (by omega)]
    rfl
  | c :: r, i + 1, q, h, hq => by
    have hc := h c List.mem_cons_self
    rw [List.flatten_cons, List.getElem?_append_right (by rw [hc, Nat.add_mul]; omega), hc, show (i + 1) * k + q - k = i * k + q by rw [Nat.add_mul]; omega, flat_get i q (fun c hc => h c (List.mem_cons_of_mem _ hc)) hq]
    simp
theorem flat_set {k : Nat} : ∀ {css : List (List Value)} (i q : Nat) (u : Value), (∀ c ∈ css, c.length = k) → q < k → i < css.length → css.flatten.set (i * k + q) u = (css.set i ((css[i]!).set q u)).flatten
  | [], i, q, u, _, _, hi => by simp at hi
  | c :: r, 0, q, u, h, hq, _ => by
    have hc := h c List.mem_cons_self
    rw [List.flatten_cons, Nat.zero_mul, Nat.zero_add, List.set_append_left _ _ (by omega)]
    simp
  | c :: r, i + 1, q, u, h, hq, hi => by
    have hc := h c List.mem_cons_self
    have hi' : i < r.length := by simpa using hi
    rw [List.flatten_cons, List.set_append_right _ _ (by rw [hc, Nat.add_mul]; omega), hc, show (i + 1) * k + q - k = i * k + q by rw [Nat.add_mul]; omega, flat_set i q u (fun c hc => h c (List.mem_cons_of_mem _ hc)) hq hi']
    simp
structure Flat {α : Type} (d : Kd α) (k : Nat) (enc : α → List Value) : Prop where
  sz : d.sz = k
  mkM : ∀ w base ok x, d.M w base ok x (enc x)
  kk : ∀ w x, d.K w x (enc x)
  openM : ∀ w base ok x cs, d.M w base ok x cs → cs = enc x
  openK : ∀ w x cs, d.K w x cs → cs = enc x
theorem Flat.one {α : Type} {d : Kd α} {k : Nat} {enc : α → List Value} (F : Flat d k enc) (x : α) : (enc x).length = k ∧ ∀ u ∈ enc x, u.oneCell' = true :=
  ⟨by rw [← F.sz]; exact d.K_len (F.kk default x), d.K_one (F.kk default x)⟩
theorem Flat.R {α : Type} {d : Kd α} {k : Nat} {enc : α → List Value} (F : Flat d k enc) {e base : Nat} {w : World} {v : Value} {l : List α} {ok : Nat → Prop} (h : Own k e w base v (l.map enc)) (hok : ∀ b, v.ownBlock = some b → ok b) : Kd.R d e w base ok v l := by
  refine ⟨hok, (l.map enc).flatten, ?_, ?_⟩
  · have := h.2
    rw [List.length_map] at this
    rw [F.sz]; exact this
  · have hr := reps_flat h.1
    rw [F.sz]
    refine ⟨by rw [hr.1, List.length_map], fun j p hj => ?_⟩
    have := (hr.2 j (enc p) (by rw [List.getElem?_map, hj]; rfl)).1
    rw [this]
    exact F.mkM _ _ _ _
theorem Flat.sl {α : Type} {d : Kd α} {k : Nat} {enc : α → List Value} (F : Flat d k enc) {w : World} {v : Value} {l : List α} (h : Sl d w v l) : Sl (raw k) w v (l.map enc) := by
  obtain ⟨A, c, rfl, hc, h⟩ := h
  refine ⟨A, c, by rw [List.length_map], by rw [List.length_map]; exact hc, by rw [List.length_map], by rw [List.length_map]; exact h.2.1, fun hn => ?_⟩
  obtain ⟨ad, e, hcell⟩ := h.2.2 (by rw [List.length_map] at hn; exact hn)
  refine ⟨ad, e, fun j p hj => ?_⟩
  rw [List.getElem?_map] at hj
  obtain ⟨x, hx, rfl⟩ := Option.map_eq_some_iff.1 hj
  obtain ⟨cs, hl, hK, hcc⟩ := hcell j x hx
  obtain rfl := F.openK _ _ _ hK
  exact ⟨enc x, (F.one x).1, ⟨rfl, F.one x⟩, fun i u hu => by have := hcc i u hu; rwa [F.sz] at this⟩
theorem Flat.ofsl {α : Type} {d : Kd α} {k : Nat} {enc : α → List Value} (F : Flat d k enc) {w : World} {v : Value} {l : List α} (h : Sl (raw k) w v (l.map enc)) : Sl d w v l := by
  obtain ⟨A, c, rfl, hc, h⟩ := h
  rw [List.length_map] at hc h
  refine ⟨A, c, by rw [List.length_map], hc, rfl, h.2.1, fun hn => ?_⟩
  obtain ⟨ad, e, hcell⟩ := h.2.2 hn
  refine ⟨ad, e, fun j p hj => ?_⟩
  obtain ⟨cs, hl, hK, hcc⟩ := hcell j (enc p) (by rw [List.getElem?_map, hj]; rfl)
  obtain ⟨rfl, _, _⟩ := hK
  exact ⟨enc p, by rw [F.sz]; exact hl, F.kk _ _, fun i u hu => by have := hcc i u hu; rwa [F.sz]⟩
theorem grownBy_setRow (w : World) (g : Nat) (cs : Array Value) : w.grownBy (w.setRow g cs) (some g) := ⟨rfl, rfl, rfl, by simp, fun k _ hk => setRow_other w g k cs (fun e => hk (by rw [e]))⟩
section
variable {P : Program}
theorem qz30 {w : World} {g : Nat} {cs : List Value} {e : TypeId} (h : w.heap[g]? = some (.cells cs.toArray e (0, 0))) (j : Nat) : w.cell? ⟨g, j, none⟩ = cs[j]? := by
  simp [World.cell?, h]
theorem frozen_row {w : World} {g : Nat} {cs : Array Value} {e : TypeId} (h : w.heap[g]? = some (.cells cs e (0, 0))) (j : Nat) : w.frozen? ⟨g, j, none⟩ = false := by
  simp [World.frozen?, h]
theorem qz49 {ops : Array Oper} {rest : List Oper} {o : Oper} {a : Act} {Q : Exit → Act → World → Prop} {W : World} {b : Builtin} {xs : Array Operand} {ts : Array TypeId} (_ho : o.op = .call { callee := .builtin b, args := xs, argTypes := ts }) (h : wpList P ops Q (o :: rest) a W) : wpList P ops Q (o :: rest) a W := h
theorem Own.get {k e base : Nat} {w : World} {g n cap : Nat} {css : List (List Value)} (h : Own k e w base (.slice (some ⟨g, 0, none⟩) n cap) css) (i q : Nat) (hi : i < css.length) (hq : q < k) :
    w.cell? ⟨g, i * k + q, none⟩ = some ((css[i]!)[q]!) ∧ w.frozen? ⟨g, i * k + q, none⟩ = false ∧ w.heap[g]?.isSome := by
  have hk := fun c hc => (h.1 c hc).1
  rcases h.cases with ⟨e, _⟩ | ⟨g', cap', cur, e, _, _, hh, _⟩
  · cases e
  · cases e
    refine ⟨?_, frozen_row hh _, by rw [hh]; rfl⟩
    have hx := flat_get i q hk hq
    have hci := hk _ (List.getElem_mem hi)
    rw [qz30 hh, List.getElem?_append_left (by rw [flat_len hk]; have := Nat.mul_le_mul_right k (show i + 1 ≤ css.length by omega); rw [Nat.add_mul] at this; omega), hx, List.getElem?_eq_getElem hi, getElem!_pos css i hi, getElem!_pos (css[i]) q (by omega)]
    simp [List.getElem?_eq_getElem (show q < (css[i]).length by omega)]
theorem Own.store {k e base : Nat} {w : World} {g n cap : Nat} {css : List (List Value)} (h : Own k e w base (.slice (some ⟨g, 0, none⟩) n cap) css) (i q : Nat) (hi : i < css.length) (hq : q < k) (u : Value) (hu : u.oneCell' = true) :
    Own k e (w.setCell ⟨g, i * k + q, none⟩ u) base (.slice (some ⟨g, 0, none⟩) n cap) (css.set i ((css[i]!).set q u)) ∧ w.grownBy (w.setCell ⟨g, i * k + q, none⟩ u) (some g) := by
  have hk := fun c hc => (h.1 c hc).1
  rcases h.cases with ⟨e, _⟩ | ⟨g', cap', cur, e, hb, _, hh, hn, hm, hl⟩
  · cases e
  · cases e
    rw [setCell_eq_setRow w g _ _ _ _ u hh]
    refine ⟨?_, grownBy_setRow w g _⟩
    have hlt : i * k + q < css.flatten.length := by rw [flat_len hk]; have := Nat.mul_le_mul_right k (show i + 1 ≤ css.length by omega); rw [Nat.add_mul] at this; omega
    refine Own.mk (cur := cur) ?_ hb ?_ (by rw [List.length_set]) hn hm hl
    · intro c hc
      rcases List.mem_or_eq_of_mem_set hc with hc | rfl
      · exact h.1 c hc
      · have hci := h.1 _ (List.getElem_mem hi)
        rw [getElem!_pos css i hi]
        refine ⟨by rw [List.length_set]; exact hci.1, fun v hv => ?_⟩
        rcases List.mem_or_eq_of_mem_set hv with hv | rfl
        · exact hci.2 v hv
        · exact hu
    · rw [setRow_heap w g _ _ _ _ hh, ← flat_set i q u hk hq hi]
      congr 2
      apply Array.ext'
      simp [List.set_append_left _ _ hlt]
theorem step_append_own {ops : Array Oper} {o : Oper} {a : Act} {W : World} {K : Act → World → Prop} {Q : Exit → Act → World → Prop} {E : Prop} (hgd : o.guard = none) (s x : Operand) (t e : TypeId) (z : Value) (k bytes : Nat)
    (ho : o.op = .call { callee := .builtin .append, args := #[s, x], argTypes := #[t, t] })
    (ht : P.underlying t = some (.slice e)) (hinfo : (P.info? e).map (fun i => (i.zero, i.size, i.bytes)) = some (some z, k, bytes)) (hz : z.cells.size = k) (hs0 : 0 < k) (hb0 : 0 < bytes)
    (base : Nat) (v : Value) (xs ys : List (List Value)) (A : Option Addr) (m c : Nat) (hs : a.eval s = v) (hx : a.eval x = .slice A m c) (HO : Own k e W base v xs) (HR : Kd.C (raw k) W A m ys) (hbase : base ≤ W.heap.size) (hl : (xs.length + m) * bytes ≤ 140737488355328)
    (h : ∀ v1 w1, Own k e w1 base v1 (xs ++ ys) → W.grownBy w1 v.ownBlock → K (a.put o.dst v1) w1) :
    if Region.wanted o (yielded ops a.tmps) = true then Oper.wp P o a W K Q else E := by
  have hw : Region.wanted o (yielded ops a.tmps) = true := by simp [Region.wanted, hgd]
  have := Kd.R_append_rows_step (raw k) (Q := Q) (Kc := K) (w0 := W) base hw s x t e z bytes ho ht hinfo hz hs0 hb0 v xs ys A m c (fun _ => True) (fun _ => False) hs hx HO.R HR (fun _ _ h => h) (fun _ h => h.elim) (fun _ _ => trivial) (Below.refl _ _) hbase hl (fun v1 w1 ho _ hg _ => h v1 w1 (Own.of_R ho) hg)
  rw [if_pos hw] at this ⊢
  exact this
theorem C_take {k : Nat} {w : World} {A : Option Addr} {l : List (List Value)} (h : Kd.C (raw k) w A l.length l) (m : Nat) (hm : m ≤ l.length) : Kd.C (raw k) w A m (l.take m) := by
  refine ⟨by simp; omega, Nat.le_trans hm h.2.1, fun hp => ?_⟩
  obtain ⟨ad, e, hc⟩ := h.2.2 (by omega)
  exact ⟨ad, e, fun j p hj => hc j p (by rw [List.getElem?_take] at hj; split at hj <;> simp_all)⟩
theorem C_drop {k : Nat} {w : World} {A : Option Addr} {l : List (List Value)} (h : Kd.C (raw k) w A l.length l) (m : Nat) (hm : m ≤ l.length) (A' : Option Addr) (hA : m < l.length → ∀ ad, A = some ad → A' = some (ad.add (m * k))) : Kd.C (raw k) w A' (l.length - m) (l.drop m) := by
  refine ⟨by simp, by have := h.2.1; omega, fun hp => ?_⟩
  obtain ⟨ad, e, hc⟩ := h.2.2 (by omega)
  refine ⟨_, hA (by omega) ad e, fun j p hj => ?_⟩
  rw [List.getElem?_drop] at hj
  obtain ⟨cs, h1, h2, h3⟩ := hc (m + j) p hj
  refine ⟨cs, h1, h2, fun i u hu => ?_⟩
  have := h3 i u hu
  have e2 : ((ad.add (m * k)).add (j * k + i)) = ad.add ((m + j) * k + i) := by
    obtain ⟨b, o, mm⟩ := ad
    rcases Nat.eq_zero_or_pos (m * k) with h0 | h0
    · rw [h0, show (m + j) * k + i = j * k + i by rw [Nat.add_mul, h0]; omega]
      rfl
    · unfold Addr.add
      rw [if_neg (show ¬ m * k = 0 by omega), if_neg (show ¬ (m + j) * k + i = 0 by rw [Nat.add_mul]; omega)]
      split
      · simp_all [Nat.add_mul]
      · simp [Nat.add_mul]; omega
  show w.cell? ((ad.add (m * k)).add (j * (raw k).sz + i)) = some u
  rw [show (raw k).sz = k from rfl, e2]
  exact this
end
end Go.Proofs.Ytkennobdoldlkaa
end
