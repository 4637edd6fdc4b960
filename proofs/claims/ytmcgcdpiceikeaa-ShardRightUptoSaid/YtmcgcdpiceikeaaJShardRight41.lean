/- Joined texts of the claim ShardRight (part 41): contracts of functions and plain laws. -/
import Derived.BigQuiet
import Derived.BigRegion
import Derived.Deep.QuietTactic
import Derived.Test.YtmcgcdpiceikeaaJShardRight40
import Derived.Deep.RegionHeld3
import Derived.Test.YtmcgcdpiceikeaaJShardRight23
import Derived.Test.YtmcgcdpiceikeaaJShardRight14
import Derived.Test.YtmcgcdpiceikeaaJShardRight15
section
/- ferruleref13.known and over, by hand: the places of a transaction. -/
namespace Go.Proofs.Ytmcgcdpiceikeaa.PAll
open Go.RowKit Go.Proofs.YtmcgcdpiceikeaaW.PrintWords Go.Proofs.YtmcgcdpiceikeaaW.PrintMore Go.Proofs.Ytmcgcdpiceikeaa
set_option linter.unusedVariables false
set_option linter.unusedSimpArgs false
theorem cells_2 {w : World} {b : Nat} {t : TypeId} {a0 a1 : Value} (h : w.heap[b]? = some (.cells #[a0, a1] t (0, 0))) : w.cell? ⟨b, 0, none⟩ = some a0 ∧ w.cell? ⟨b, 1, none⟩ = some a1 :=
  ⟨cell_row (cs := [a0, a1]) h 0, cell_row (cs := [a0, a1]) h 1⟩
set_option maxHeartbeats 2000000 in
set_option maxRecDepth 100000 in
theorem known13_calls (v0 v1 v3 : Value) (A : Option Addr) (c : Nat) (l : List S48) (ver : Int) (t : S30) (w : World) (hr : Kd.C k48 w A l.length l) :
    Calls Try.prog 34 #[.agg #[v0, v1, .slice A l.length c, v3, .int .u64 ver], .agg #[.int .u64 t.f0, .int .u64 t.f1]] w fun e w' => e = .returned (.int .i64 (findI (isOpenT t) l)) ∧ Below w.heap.size w w' := by
  have hn : l.length ≤ 9223372036854775807 := hr.2.1
  obtain ⟨ta, ti⟩ := t
  have hxa := stayA (heap_alloc_new w (.cells #[v0, v1, .slice A l.length c, v3, .int .u64 ver] 28)) (.cells #[.int .u64 ta, .int .u64 ti] 30)
  have hxb := heap_alloc_new (w.alloc (.cells #[v0, v1, .slice A l.length c, v3, .int .u64 ver] 28)) (.cells #[.int .u64 ta, .int .u64 ti] 30)
  rw [World.size_alloc] at hxb
  have HB0 := Aside0.mk (((Below.refl w.heap.size w).alloc (Nat.le_refl _) (.cells #[v0, v1, .slice A l.length c, v3, .int .u64 ver] 28)).alloc (by simp) (.cells #[.int .u64 ta, .int .u64 ti] 30))
  go_enter Try.func34, Try.ntmps34
  have HXA := Aside0.mk (fun (W : World) (h : Below ((w.alloc (.cells #[v0, v1, .slice A l.length c, v3, .int .u64 ver] 28)).alloc (.cells #[.int .u64 ta, .int .u64 ti] 30)).heap.size ((w.alloc (.cells #[v0, v1, .slice A l.length c, v3, .int .u64 ver] 28)).alloc (.cells #[.int .u64 ta, .int .u64 ti] 30)) W) => stay h hxa (Array.getElem?_eq_some_iff.1 hxa).1)
  have HXB := Aside0.mk (fun (W : World) (h : Below ((w.alloc (.cells #[v0, v1, .slice A l.length c, v3, .int .u64 ver] 28)).alloc (.cells #[.int .u64 ta, .int .u64 ti] 30)).heap.size ((w.alloc (.cells #[v0, v1, .slice A l.length c, v3, .int .u64 ver] 28)).alloc (.cells #[.int .u64 ta, .int .u64 ti] 30)) W) => stay h hxb (Array.getElem?_eq_some_iff.1 hxb).1)
  clear hxa hxb
  go_wp2
  generalize (w.alloc (.cells #[v0, v1, .slice A l.length c, v3, .int .u64 ver] 28)).alloc (.cells #[.int .u64 ta, .int .u64 ti] 30) = W1 at *
  go_loopg [5] l.length (fun gg s5 wv => ∃ kk : Nat, kk ≤ l.length ∧ l.length - kk ≤ gg ∧ s5 = .int .i64 kk ∧ (∀ j, j < kk → isOpenT ⟨ta, ti⟩ l[j]! = false) ∧ Aside0 (Below W1.heap.size W1 wv))
  case atStart => exact ⟨0, Nat.zero_le _, by omega, rfl, fun _ h => absurd h (by omega), ⟨Below.refl _ _⟩⟩
  case round =>
    obtain ⟨kk, hkk, hgk, rfl, hno, HBv⟩ := hrel
    obtain ⟨ha0, ha1, ha2, ha3, ha4⟩ := cells_5 (HXA.out _ HBv.out)
    obtain ⟨hk0, hk1⟩ := cells_2 (HXB.out _ HBv.out)
    have HBw := HB0.out.trans (HBv.out.mono HB0.out.size)
    by_cases hlt : kk < l.length
    · have hltz : (kk : Int) < (l.length : Int) := by omega
      have hkz : (0 : Int) ≤ (kk : Int) := by omega
      obtain ⟨xb, xo, rfl, P, pc, hp1, hp2, hx0, hx1, hx2, hx3, hx4⟩ := openRow (Kd.C_below hr HBw) kk hlt
      cases hp : isOpenT ⟨ta, ti⟩ l[kk]! with
      | true =>
        have he : ((l[kk]!).f0.f0 = ta ∧ (l[kk]!).f0.f1 = ti) := by
          have := same_iff.1 hp; exact ⟨congrArg (·.f0) this, congrArg (·.f1) this⟩
        obtain ⟨e0, e1⟩ := he
        rw [e0] at hx0
        rw [e1] at hx1
        go_wp2
        go_quiet (fail)
        go_wp2
        go_ret
        exact ⟨by rw [findI_hit _ _ kk hlt hp hno]; rfl, pw_below_drewN HBw _⟩
      | false =>
        have hne : ¬ ((l[kk]!).f0.f0 = ta ∧ (l[kk]!).f0.f1 = ti) := fun ⟨e0, e1⟩ => by
          have : isOpenT ⟨ta, ti⟩ l[kk]! = true := same_iff.2 (by cases h : (l[kk]!).f0; rw [h] at e0 e1; cases e0; cases e1; rfl)
          rw [hp] at this; cases this
        generalize (l[kk]!).f0.f0 = ya at *
        generalize (l[kk]!).f0.f1 = yi at *
        have hno' : ∀ j, j < kk + 1 → isOpenT ⟨ta, ti⟩ l[j]! = false := fun j hj => by
          by_cases e : j = kk
          · rw [e]; exact hp
          · exact hno j (by omega)
        clear hp hno
        by_cases h0 : ya = ta
        · subst h0
          have h1 : ¬ yi = ti := fun e => hne ⟨rfl, e⟩
          clear hne
          go_wp2
          go_quiet (fail)
          go_wp2
          go_roundg (l.length - (kk + 1))
          case measure => omega
          case rel => exact ⟨kk + 1, by omega, by omega, by go_num, hno', ⟨pw_below_drewN HBv.out _⟩⟩
        · clear hne
          go_wp2
          go_quiet (fail)
          go_wp2
          go_roundg (l.length - (kk + 1))
          case measure => omega
          case rel => exact ⟨kk + 1, by omega, by omega, by go_num, hno', ⟨pw_below_drewN HBv.out _⟩⟩
    · have hltz : ¬ (kk : Int) < (l.length : Int) := by omega
      go_wp2
      go_ret
      exact ⟨by rw [findI_miss _ _ (fun j hj => hno j (by omega))]; rfl, HBw⟩
set_option maxHeartbeats 2000000 in
set_option maxRecDepth 100000 in
theorem over13_calls (v0 v1 v2 : Value) (A : Option Addr) (c : Nat) (l : List S68) (ver : Int) (t : S30) (w : World) (hr : Kd.C k68 w A l.length l) :
    Calls Try.prog 35 #[.agg #[v0, v1, v2, .slice A l.length c, .int .u64 ver], .agg #[.int .u64 t.f0, .int .u64 t.f1]] w fun e w' => e = .returned (.int .i64 (findI (isDoneT t) l)) ∧ Below w.heap.size w w' := by
  have hn : l.length ≤ 9223372036854775807 := hr.2.1
  obtain ⟨ta, ti⟩ := t
  have hxa := stayA (heap_alloc_new w (.cells #[v0, v1, v2, .slice A l.length c, .int .u64 ver] 28)) (.cells #[.int .u64 ta, .int .u64 ti] 30)
  have hxb := heap_alloc_new (w.alloc (.cells #[v0, v1, v2, .slice A l.length c, .int .u64 ver] 28)) (.cells #[.int .u64 ta, .int .u64 ti] 30)
  rw [World.size_alloc] at hxb
  have HB0 := Aside0.mk (((Below.refl w.heap.size w).alloc (Nat.le_refl _) (.cells #[v0, v1, v2, .slice A l.length c, .int .u64 ver] 28)).alloc (by simp) (.cells #[.int .u64 ta, .int .u64 ti] 30))
  go_enter Try.func35, Try.ntmps35
  have HXA := Aside0.mk (fun (W : World) (h : Below ((w.alloc (.cells #[v0, v1, v2, .slice A l.length c, .int .u64 ver] 28)).alloc (.cells #[.int .u64 ta, .int .u64 ti] 30)).heap.size ((w.alloc (.cells #[v0, v1, v2, .slice A l.length c, .int .u64 ver] 28)).alloc (.cells #[.int .u64 ta, .int .u64 ti] 30)) W) => stay h hxa (Array.getElem?_eq_some_iff.1 hxa).1)
  have HXB := Aside0.mk (fun (W : World) (h : Below ((w.alloc (.cells #[v0, v1, v2, .slice A l.length c, .int .u64 ver] 28)).alloc (.cells #[.int .u64 ta, .int .u64 ti] 30)).heap.size ((w.alloc (.cells #[v0, v1, v2, .slice A l.length c, .int .u64 ver] 28)).alloc (.cells #[.int .u64 ta, .int .u64 ti] 30)) W) => stay h hxb (Array.getElem?_eq_some_iff.1 hxb).1)
  clear hxa hxb
  go_wp2
  generalize (w.alloc (.cells #[v0, v1, v2, .slice A l.length c, .int .u64 ver] 28)).alloc (.cells #[.int .u64 ta, .int .u64 ti] 30) = W1 at *
  go_loopg [5] l.length (fun gg s5 wv => ∃ kk : Nat, kk ≤ l.length ∧ l.length - kk ≤ gg ∧ s5 = .int .i64 kk ∧ (∀ j, j < kk → isDoneT ⟨ta, ti⟩ l[j]! = false) ∧ Aside0 (Below W1.heap.size W1 wv))
  case atStart => exact ⟨0, Nat.zero_le _, by omega, rfl, fun _ h => absurd h (by omega), ⟨Below.refl _ _⟩⟩
  case round =>
    obtain ⟨kk, hkk, hgk, rfl, hno, HBv⟩ := hrel
    obtain ⟨ha0, ha1, ha2, ha3, ha4⟩ := cells_5 (HXA.out _ HBv.out)
    obtain ⟨hk0, hk1⟩ := cells_2 (HXB.out _ HBv.out)
    have HBw := HB0.out.trans (HBv.out.mono HB0.out.size)
    by_cases hlt : kk < l.length
    · have hltz : (kk : Int) < (l.length : Int) := by omega
      have hkz : (0 : Int) ≤ (kk : Int) := by omega
      obtain ⟨xb, xo, rfl, hx0, hx1, hx2⟩ := doneRow (Kd.C_below hr HBw) kk hlt
      cases hp : isDoneT ⟨ta, ti⟩ l[kk]! with
      | true =>
        have he : ((l[kk]!).f0.f0 = ta ∧ (l[kk]!).f0.f1 = ti) := by
          have := same_iff.1 hp; exact ⟨congrArg (·.f0) this, congrArg (·.f1) this⟩
        obtain ⟨e0, e1⟩ := he
        rw [e0] at hx0
        rw [e1] at hx1
        go_wp2
        go_quiet (fail)
        go_wp2
        go_ret
        exact ⟨by rw [findI_hit _ _ kk hlt hp hno]; rfl, pw_below_drewN HBw _⟩
      | false =>
        have hne : ¬ ((l[kk]!).f0.f0 = ta ∧ (l[kk]!).f0.f1 = ti) := fun ⟨e0, e1⟩ => by
          have : isDoneT ⟨ta, ti⟩ l[kk]! = true := same_iff.2 (by cases h : (l[kk]!).f0; rw [h] at e0 e1; cases e0; cases e1; rfl)
          rw [hp] at this; cases this
        generalize (l[kk]!).f0.f0 = ya at *
        generalize (l[kk]!).f0.f1 = yi at *
        have hno' : ∀ j, j < kk + 1 → isDoneT ⟨ta, ti⟩ l[j]! = false := fun j hj => by
          by_cases e : j = kk
          · rw [e]; exact hp
          · exact hno j (by omega)
        clear hp hno
        by_cases h0 : ya = ta
        · subst h0
          have h1 : ¬ yi = ti := fun e => hne ⟨rfl, e⟩
          clear hne
          go_wp2
          go_quiet (fail)
          go_wp2
          go_roundg (l.length - (kk + 1))
          case measure => omega
          case rel => exact ⟨kk + 1, by omega, by omega, by go_num, hno', ⟨pw_below_drewN HBv.out _⟩⟩
        · clear hne
          go_wp2
          go_quiet (fail)
          go_wp2
          go_roundg (l.length - (kk + 1))
          case measure => omega
          case rel => exact ⟨kk + 1, by omega, by omega, by go_num, hno', ⟨pw_below_drewN HBv.out _⟩⟩
    · have hltz : ¬ (kk : Int) < (l.length : Int) := by omega
      go_wp2
      go_ret
      exact ⟨by rw [findI_miss _ _ (fun j hj => hno j (by omega))]; rfl, HBw⟩
end Go.Proofs.Ytmcgcdpiceikeaa.PAll
end
section
/- ferruleref12.Right of a list of locks none of which is in another's way. -/
namespace Go.Proofs.Ytmcgcdpiceikeaa.PAll
open Go.RowKit Go.Proofs.YtmcgcdpiceikeaaW.PrintWords Go.Proofs.YtmcgcdpiceikeaaW.PrintMore Go.Proofs.Ytmcgcdpiceikeaa
set_option linter.unusedVariables false
set_option linter.unusedSimpArgs false
/-- A lock's row. -/
def RowH (W : World) (b a : Nat) (x : S75) : Prop := W.cell? ⟨b, a, none⟩ = some (.string x.f0) ∧ W.cell? ⟨b, a + 1, none⟩ = some (.int .u64 x.f1.f0) ∧ W.cell? ⟨b, a + 2, none⟩ = some (.int .u64 x.f1.f1) ∧ W.cell? ⟨b, a + 3, none⟩ = some (.bool x.f2)
theorem RowH.keep {W w' : World} {b a : Nat} {x : S75} (h : RowH W b a x) (hb : Below W.heap.size W w') : RowH w' b a x := by
  obtain ⟨h1, h2, h3, h4⟩ := h
  exact ⟨(hb.cell (World.block_lt_of_cell? _ _ h1)).trans h1, (hb.cell (World.block_lt_of_cell? _ _ h2)).trans h2, (hb.cell (World.block_lt_of_cell? _ _ h3)).trans h3, (hb.cell (World.block_lt_of_cell? _ _ h4)).trans h4⟩
def RowH2 (w W : World) (b a1 a2 : Nat) (x y : S75) : Prop := W.cell? ⟨b, a1, none⟩ = some (.string x.f0) ∧ W.cell? ⟨b, a1 + 1, none⟩ = some (.int .u64 x.f1.f0) ∧ W.cell? ⟨b, a1 + 2, none⟩ = some (.int .u64 x.f1.f1) ∧ W.cell? ⟨b, a1 + 3, none⟩ = some (.bool x.f2) ∧ W.cell? ⟨b, a2, none⟩ = some (.string y.f0) ∧ W.cell? ⟨b, a2 + 1, none⟩ = some (.int .u64 y.f1.f0) ∧ W.cell? ⟨b, a2 + 2, none⟩ = some (.int .u64 y.f1.f1) ∧ W.cell? ⟨b, a2 + 3, none⟩ = some (.bool y.f2) ∧ Below w.heap.size w W
theorem RowH2.keep {w W w' : World} {b a1 a2 : Nat} {x y : S75} (h : RowH2 w W b a1 a2 x y) (hb : Below W.heap.size W w') : RowH2 w w' b a1 a2 x y := by
  obtain ⟨h1, h2, h3, h4, h5, h6, h7, h8, h9⟩ := h
  obtain ⟨g1, g2, g3, g4⟩ := RowH.keep (x := x) ⟨h1, h2, h3, h4⟩ hb
  obtain ⟨g5, g6, g7, g8⟩ := RowH.keep (x := y) ⟨h5, h6, h7, h8⟩ hb
  exact ⟨g1, g2, g3, g4, g5, g6, g7, g8, h9.trans (hb.mono h9.size)⟩
theorem RightL.key {l : List S75} (h : RightL l) {i j : Nat} (hi : i < l.length) (hj : j < l.length) (hne : i ≠ j) (he : (l[i]!).f1 = (l[j]!).f1) : ¬ (l[i]!).f0.toList = (l[j]!).f0.toList := fun hk => by
  have := (List.getElem_inj (h₀ := by simpa using hi) (h₁ := by simpa using hj) h.nd).1 (by
    rw [List.getElem_map, List.getElem_map]
    rw [getElem!_pos l i hi, getElem!_pos l j hj] at he hk
    rw [he, hk])
  exact hne this
end Go.Proofs.Ytmcgcdpiceikeaa.PAll
end
section
-- Printed by this session's pr.sh (the kit's print.py, several laws in one namespace). Not trusted: Lean checks it.
namespace Go.Proofs.Ytmcgcdpiceikeaa.PAll
open Go.RowKit Go.Proofs.YtmcgcdpiceikeaaW.PrintWords Go.Proofs.YtmcgcdpiceikeaaW.PrintLast Go.Proofs.YtmcgcdpiceikeaaW.PrintMore
attribute [local go_sem] max2_int min2_int max_two min_two max_three min_three max_four min_four   -- for this text's walks alone
set_option linter.unusedVariables false
set_option linter.unusedSimpArgs false

/-! ### ferruleref13_with: function 72 -/
def ferruleref13_with.l0 : Nat → List ByteArray → ByteArray → Int → Option (List ByteArray)
  | 0, _, _, _ => none
  | k + 1, x0, x1, x5 => if x5 < (x0.length : Int) then (if 0 ≤ x5 then (if (rdOf ByteArray.empty x0 x5).toList = x1.toList then (some x0) else (ferruleref13_with.l0 k x0 x1 (wrap64 (x5 + 1)))) else (none)) else ((some (([] : List ByteArray) : List ByteArray)).bind fun y302 => (if y302.length + x0.length < 8796093022208 then ((some (y302 ++ x0 : List ByteArray)).bind fun y305 => (if y305.length < 8796093022208 then (some (y305 ++ [x1])) else (none))) else (none)))
def ferruleref13_with.f (k : Nat) (l0 : List ByteArray) (a1 : ByteArray) : Option (List ByteArray) := ferruleref13_with.l0 k l0 a1 0
set_option maxHeartbeats 8000000 in
set_option maxRecDepth 100000 in
theorem ferruleref13_with.calls (k : Nat) (P0_ : Nat → Prop) (A0 : Option Addr) (c0 : Nat) (l0 : List ByteArray) (a1 : ByteArray) (r : List ByteArray) (w : World) (hs0 : Kd.V Kd.string 9 w w.heap.size (fun k_ => P0_ k_) (.slice A0 l0.length c0) l0) (h : ferruleref13_with.f k l0 a1 = some r) :
    Calls Try.prog 72 #[.slice A0 l0.length c0, .string a1] w fun e w' => ∃ v0_ : Value, e = .returned (v0_) ∧ Kd.V Kd.string 9 w' w.heap.size (fun k_ => (P0_ k_ ∨ w.heap.size ≤ k_)) v0_ r ∧ Below w.heap.size w w' := by
  have HO0 := Aside0.mk (show Kd.V Kd.string 9 w w.heap.size (fun k_ => (P0_ k_ ∨ w.heap.size ≤ k_)) (.slice A0 l0.length c0) l0 from Kd.V_mono hs0 (fun k_ hk => .inl hk))
  have HB := Aside0.mk (Below.refl w.heap.size w)
  have H : (ferruleref13_with.l0 k l0 a1 0) = some r := h
  clear h
  have H' := Aside0.mk H
  clear H
  go_enter Try.func72, Try.ntmps72
  go_wp2
  go_loopg [5] k (fun kq v5 w' => ∃ (x5_1 : Int), v5 = .int .i64 x5_1 ∧ Aside0 (ferruleref13_with.l0 kq l0 a1 x5_1 = some r) ∧ Aside0 (kq ≤ k) ∧ Aside0 (Kd.V Kd.string 9 w' w.heap.size (fun k_ => (P0_ k_ ∨ w.heap.size ≤ k_)) (.slice A0 l0.length c0) l0) ∧ Aside0 (Below w.heap.size w w'))
  case atStart => exact ⟨(0), (by first | rfl | (simp; done) | (simp [*]; done)), H', ⟨Nat.le_refl _⟩, ⟨by (with_reducible repeat (first | apply Kd.V_alloc | apply Kd.V_drewN | apply Kd.V_drew)); exact HO0.out⟩, ⟨by repeat (first | (with_reducible first | exact HB.out | apply below_alloc | apply pw_below_drewN | apply below_drew1) | exact HB.out)⟩⟩
  case round =>
    clear H'
    try clear p2
    obtain ⟨x5_1, rfl, HA, HK1, HO_0, HB⟩ := hrel
    cases gk with
    | zero => exact absurd HA.out (by simp [ferruleref13_with.l0])
    | succ k1 =>
      have H := HA.out
      clear HA
      simp only [ferruleref13_with.l0] at H
      by_cases c3 : x5_1 < (l0.length : Int)
      · rw [if_pos c3] at H
        have c3b0 : decide (x5_1 < (l0.length : Int)) = true := decide_eq_true c3
        clear c3
        by_cases c4 : 0 ≤ x5_1
        · rw [if_pos c4] at H
          have c4b0 : decide (0 ≤ x5_1) = true := decide_eq_true c4
          clear c4
          by_cases c5 : (rdOf ByteArray.empty l0 x5_1).toList = a1.toList
          · rw [if_pos c5] at H
            have c5b0 : ((rdOf ByteArray.empty l0 x5_1).toList == a1.toList) = true := beq_iff_eq.mpr c5
            have c5b1 : ((rdOf ByteArray.empty l0 x5_1).toList != a1.toList) = false := bne_eq_false_iff_eq.mpr c5
            clear c5
            obtain rfl := Option.some.inj H
            have p301 : 0 ≤ (x5_1 : Int) := of_decide_eq_true (by first | (with_reducible assumption) | assumption)
            have q301 : x5_1 < (l0.length : Int) := of_decide_eq_true (by first | (with_reducible assumption) | assumption)
            obtain ⟨ad301, e301, hx301_0⟩ := Kd.at_string (Kd.V_reads' HO_0.out).2.2 x5_1 p301 q301
            cases e301
            replace p301 := eq_true p301
            replace q301 := eq_true q301
            go_wp2
            go_ret
            exact ⟨_, by first | rfl | (simp [errW_none, errW_some] <;> rfl) | (simp [*, errW_none, errW_some] <;> rfl), by (with_reducible repeat (first | apply Kd.V_alloc | apply Kd.V_drewN | apply Kd.V_drew)); exact HO_0.out, by repeat (first | (with_reducible first | exact HB.out | apply below_alloc | apply pw_below_drewN | apply below_drew1) | exact HB.out)⟩
          · rw [if_neg c5] at H
            have c5b0 : ((rdOf ByteArray.empty l0 x5_1).toList == a1.toList) = false := beq_eq_false_iff_ne.mpr c5
            have c5b1 : ((rdOf ByteArray.empty l0 x5_1).toList != a1.toList) = true := bne_iff_ne.mpr c5
            have H' := Aside0.mk H
            clear H
            have p301 : 0 ≤ (x5_1 : Int) := of_decide_eq_true (by first | (with_reducible assumption) | assumption)
            have q301 : x5_1 < (l0.length : Int) := of_decide_eq_true (by first | (with_reducible assumption) | assumption)
            obtain ⟨ad301, e301, hx301_0⟩ := Kd.at_string (Kd.V_reads' HO_0.out).2.2 x5_1 p301 q301
            cases e301
            replace p301 := eq_true p301
            replace q301 := eq_true q301
            go_wp2
            go_roundg k1
            case measure => have := HK1.out; omega
            case rel => exact ⟨(wrap64 (x5_1 + 1)), (by first | rfl | (simp; done) | (simp [*]; done)), H', ⟨by have := HK1.out; omega⟩, ⟨by (with_reducible repeat (first | apply Kd.V_alloc | apply Kd.V_drewN | apply Kd.V_drew)); exact HO_0.out⟩, ⟨by repeat (first | (with_reducible first | exact HB.out | apply below_alloc | apply pw_below_drewN | apply below_drew1) | exact HB.out)⟩⟩
        · rw [if_neg c4] at H
          exact absurd H (by simp)
      · rw [if_neg c3] at H
        have c3b0 : decide (x5_1 < (l0.length : Int)) = false := decide_eq_false c3
        clear c3
        obtain ⟨y302, hy302⟩ : ∃ y_ : List ByteArray, y_ = (([] : List ByteArray)) := ⟨_, rfl⟩
        replace H : (if y302.length + l0.length < 8796093022208 then ((some (y302 ++ l0 : List ByteArray)).bind fun y305 => (if y305.length < 8796093022208 then (some (y305 ++ [a1])) else (none))) else (none)) = some r := by first | (rw [hy302]; with_reducible exact H) | (have H2_ := (Option.bind_some _ _).symm.trans H; rw [hy302]; with_reducible exact H2_) | (have H2_ := (Option.bind_some _ _).symm.trans H; with_reducible exact H2_) | with_reducible exact H | (rw [hy302]; exact H) | exact H
        have Ny302 := Aside0.mk hy302
        clear hy302
        by_cases c6 : y302.length + l0.length < 8796093022208
        · rw [if_pos c6] at H
          have LMc6 := Aside0.mk c6
          clear c6
          obtain ⟨y305, hy305⟩ : ∃ y_ : List ByteArray, y_ = (y302 ++ l0) := ⟨_, rfl⟩
          replace H : (if y305.length < 8796093022208 then (some (y305 ++ [a1])) else (none)) = some r := by first | (rw [hy305]; with_reducible exact H) | (have H2_ := (Option.bind_some _ _).symm.trans H; rw [hy305]; with_reducible exact H2_) | (have H2_ := (Option.bind_some _ _).symm.trans H; with_reducible exact H2_) | with_reducible exact H | (rw [hy305]; exact H) | exact H
          have Ny305 := Aside0.mk hy305
          clear hy305
          by_cases c7 : y305.length < 8796093022208
          · rw [if_pos c7] at H
            have LMc7 := Aside0.mk c7
            clear c7
            obtain ⟨y308, hy308⟩ : ∃ y_ : List ByteArray, y_ = (y305 ++ [a1]) := ⟨_, rfl⟩
            replace H : (some y308) = some r := by first | (rw [hy308]; with_reducible exact H) | (have H2_ := (Option.bind_some _ _).symm.trans H; rw [hy308]; with_reducible exact H2_) | (have H2_ := (Option.bind_some _ _).symm.trans H; with_reducible exact H2_) | with_reducible exact H | (rw [hy308]; exact H) | exact H
            have Ny308 := Aside0.mk hy308
            clear hy308
            obtain rfl := Option.some.inj H
            go_wp2_with (first | ((with_reducible refine gate_dst (N := 19) rfl ?_); refine Kd.R_lit Kd.string _ 9 ?hg (N := 19) ?hd (xs := ([] : List ByteArray)) (inner := []) (ok := fun _ => True) (okp := fun _ => True) ?hr ?hp (fun _ hk => hk) trivial (Below.refl _ _) (Nat.le_refl _) (by simp) ?_; (case hd => rfl); (case hg => rfl); (case hr => first | (go_simp; done) | (go_simp; rfl)); (case hp => exact (Reps.none _ _)); intro v303 w8 ho9 hb hg_ hnew_; clear hg_ hnew_; (first | rw [← Ny302.out] at ho9 | (simp only [Int.reduceToNat] at ho9; rw [← Ny302.out] at ho9)); have n0_ := Aside0.mk (Kd.V_elder' (by (with_reducible repeat (first | apply Kd.V_alloc | apply Kd.V_drewN | apply Kd.V_drew)); exact HO_0.out) (Kd.R_base ho9) hb); have n1_ := Aside0.mk (Kd.R_lower (Kd.R_newM (M := fun k_ => (w.heap.size ≤ k_)) ho9 (below_size (by repeat (first | (with_reducible first | exact HB.out | apply below_alloc | apply pw_below_drewN | apply below_drew1) | exact HB.out))) (fun k_ h_ => h_)) (below_size (by repeat (first | (with_reducible first | exact HB.out | apply below_alloc | apply pw_below_drewN | apply below_drew1) | exact HB.out)))); have n2_ := Aside0.mk (below_step (by repeat (first | (with_reducible first | exact HB.out | apply below_alloc | apply pw_below_drewN | apply below_drew1) | exact HB.out)) hb); clear HO_0; clear HB; have HO_0 := n0_; have HO304 := n1_; have HB := n2_; clear n0_ n1_ n2_; clear hb ho9) | ((with_reducible refine gate_builtin (b := .append) (xs := #[.tmp 19, .tmp 20]) rfl ?_); at_builtin; refine Kd.R_append_rows Kd.string (w0 := w) w.heap.size rfl (.tmp 19) (.tmp 20) 105 9 (.string ⟨#[]⟩) 16 rfl Try.underlying105 info9 rfl (by decide) (by omega) v303 y302 l0 _ _ _ (fun k_ => (w.heap.size ≤ k_)) (fun _ => False) rfl rfl ?aO ?aR (fun _ _ h => h) (fun _ h => h.elim) ?aF ?aB ?aS ?aL ?_; (case aR => repeat (first | exact (Kd.V_reads' HO_0.out).2.2 | (with_reducible refine Kd.C_alloc ?_ _) | (with_reducible refine Kd.C_drewN ?_ _) | (with_reducible refine Kd.C_drew ?_))); (case aB => exact (by repeat (first | (with_reducible first | exact HB.out | apply below_alloc | apply pw_below_drewN | apply below_drew1) | exact HB.out))); (case aF => exact (fun k_ hk => (Nat.le_trans (below_size (by repeat (first | (with_reducible first | exact HB.out | apply below_alloc | apply pw_below_drewN | apply below_drew1) | exact HB.out))) hk))); (case aO => exact (by (with_reducible repeat (first | apply Kd.R_alloc | apply Kd.R_drewN | apply Kd.R_drew)); exact Kd.R_mono HO304.out (fun _ hk => hk.1))); (case aS => exact (below_size (by repeat (first | (with_reducible first | exact HB.out | apply below_alloc | apply pw_below_drewN | apply below_drew1) | exact HB.out)))); (case aL => have := LMc6.out; omega); intro v306 w10 ho hb hg hat; rw [← Ny305.out] at ho; have n0_ := Aside0.mk (Kd.V_afterv (ok := (fun k_ => (P0_ k_ ∨ w.heap.size ≤ k_))) (by (with_reducible repeat (first | apply Kd.V_alloc | apply Kd.V_drewN | apply Kd.V_drew)); exact HO_0.out) hg hat); have n1_ := Aside0.mk (hb); have n2_ := Aside0.mk (ho); clear HO_0; clear HB; clear HO304; have HO_0 := n0_; have HB := n1_; have HO307 := n2_; clear n0_ n1_ n2_; clear ho hb hg hat) | ((with_reducible refine gate_builtin (b := .append) (xs := #[.tmp 21, .tmp 23]) rfl ?_); at_builtin; refine Kd.R_append Kd.string (w0 := w) w.heap.size rfl (.tmp 21) (.tmp 23) 105 9 (.string ⟨#[]⟩) 16 rfl Try.underlying105 info9 rfl (by decide) (by omega) v306 y305 a1 [.string a1] (fun k_ => (w.heap.size ≤ k_)) (fun _ => False) rfl rfl ?aP (fun _ hk => hk.elim) ?aF ?aO ?aB ?aS ?aL ?_; (case aP => exact rfl); (case aB => exact (by repeat (first | (with_reducible first | exact HB.out | apply below_alloc | apply pw_below_drewN | apply below_drew1) | exact HB.out))); (case aF => exact (fun k_ hk => (Nat.le_trans (below_size (by repeat (first | (with_reducible first | exact HB.out | apply below_alloc | apply pw_below_drewN | apply below_drew1) | exact HB.out))) hk))); (case aO => exact (by (with_reducible repeat (first | apply Kd.R_alloc | apply Kd.R_drewN | apply Kd.R_drew)); exact HO307.out)); (case aS => exact (below_size (by repeat (first | (with_reducible first | exact HB.out | apply below_alloc | apply pw_below_drewN | apply below_drew1) | exact HB.out)))); (case aL => have := LMc7.out; omega); intro v309 w11 ho hb hg hat; rw [← Ny308.out] at ho; have n0_ := Aside0.mk (Kd.V_afterv (ok := (fun k_ => (P0_ k_ ∨ w.heap.size ≤ k_))) (by (with_reducible repeat (first | apply Kd.V_alloc | apply Kd.V_drewN | apply Kd.V_drew)); exact HO_0.out) hg hat); have n1_ := Aside0.mk (hb); have n2_ := Aside0.mk (ho); clear HO_0; clear HB; clear HO307; have HO_0 := n0_; have HB := n1_; have HO310 := n2_; clear n0_ n1_ n2_; clear ho hb hg hat))
            go_ret
            exact ⟨_, by first | rfl | (simp [errW_none, errW_some] <;> rfl) | (simp [*, errW_none, errW_some] <;> rfl), Kd.V_mono (Kd.R_V (by (with_reducible repeat (first | apply Kd.R_alloc | apply Kd.R_drewN | apply Kd.R_drew)); exact HO310.out)) (fun k_ hk => by first | exact ⟨(.inr (hk.1)), hk.2⟩ | exact (.inr (hk))), by repeat (first | (with_reducible first | exact HB.out | apply below_alloc | apply pw_below_drewN | apply below_drew1) | exact HB.out)⟩
          · rw [if_neg c7] at H
            exact absurd H (by simp)
        · rw [if_neg c6] at H
          exact absurd H (by simp)

end Go.Proofs.Ytmcgcdpiceikeaa.PAll
end
section
/- ferruleref13.with. -/
namespace Go.Proofs.Ytmcgcdpiceikeaa.PAll
open Go.RowKit Go.Proofs.YtmcgcdpiceikeaaW.PrintWords Go.Proofs.YtmcgcdpiceikeaaW.PrintMore Go.Proofs.Ytmcgcdpiceikeaa
set_option linter.unusedVariables false
instance : Inhabited ByteArray := ⟨ByteArray.empty⟩
theorem rdKey (l : List ByteArray) (j : Nat) (hj : j < l.length) : rdOf ByteArray.empty l (j : Int) = l[j]'hj := by
  simp [rdOf, List.getD_eq_getElem?_getD, List.getElem?_eq_getElem hj]
theorem with_l0 (l : List ByteArray) (key : ByteArray) (hl : l.length < 8796093022208) : ∀ (d j : Nat), d = l.length - j → j ≤ l.length → Ev (fun q => ferruleref13_with.l0 q l key (j : Int)) (if key ∈ l.drop j then l else l ++ [key]) := by
  intro d
  induction d with
  | zero =>
    intro j hd hj
    obtain rfl : j = l.length := by omega
    rw [List.drop_length, if_neg (by simp)]
    refine Ev.step (f := fun _ => some (l ++ [key])) (fun q => ?_) (Ev.now _)
    simp only [ferruleref13_with.l0]
    rw [if_neg (by omega)]
    simp [hl]
  | succ d ih =>
    intro j hd hj
    have hlt : j < l.length := by omega
    rw [List.drop_eq_getElem_cons hlt]
    refine Ev.step (fun q => by simp only [ferruleref13_with.l0]; rw [if_pos (by omega), if_pos (by omega), rdKey l j hlt, wrapInc j (by omega)]) ?_
    by_cases c : (l[j]'hlt).toList = key.toList
    · have e := toList_inj c
      rw [if_pos (by rw [e]; exact List.mem_cons_self)]
      exact Ev.congr (fun _ => if_pos c) (Ev.now l)
    · refine Ev.congr (fun _ => if_neg c) ?_
      have hne : ¬ key = l[j]'hlt := fun h => c (by rw [← h])
      have := ih (j + 1) (by omega) (by omega)
      by_cases h2 : key ∈ l.drop (j + 1)
      · rw [if_pos (List.mem_cons_of_mem _ h2)]
        rwa [if_pos h2] at this
      · rw [if_neg (fun h => by rcases List.mem_cons.1 h with h | h; exact hne h; exact h2 h)]
        rwa [if_neg h2] at this
theorem with_ev (l : List ByteArray) (key : ByteArray) (hl : l.length < 8796093022208) : Ev (fun q => ferruleref13_with.f q l key) (withV l key) := by
  have := with_l0 l key hl l.length 0 (by omega) (by omega)
  rw [List.drop_zero] at this
  exact this
end Go.Proofs.Ytmcgcdpiceikeaa.PAll
end
