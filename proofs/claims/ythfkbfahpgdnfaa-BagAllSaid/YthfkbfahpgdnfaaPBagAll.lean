/- All texts of a bag are told by the code, in their order, each as often as it is there, as far as they are asked for. No condition beside the form's own. -/
import Derived.Test.YthfkbfahpgdnfaaPB4
import Derived.Test.YthfkbfahpgdnfaaO1
import Derived.Test.YthfkbfahpgdnfaaPAllx12
import Derived.Test.YthfkbfahpgdnfaaPAllx15
import Derived.Test.YthfkbfahpgdnfaaPAllx17
import Derived.Test.YthfkbfahpgdnfaaPAllx20
namespace Go.Proofs.Ythfkbfahpgdnfaa.PAll
open Go.RowKit Go.Shelf Go.Proofs.YthfkbfahpgdnfaaW.PrintWords Go.Proofs.YthfkbfahpgdnfaaW.PrintMore Go.Proofs.Ythfkbfahpgdnfaa
set_option linter.unusedVariables false
attribute [local go_sem] Oper.semAt_some
theorem pick_some (l : List S79) (hl : l.length < 5864062014806) (i : Nat) : ∃ k, ferruleref18_Pick.f k l ((i : Int) % 9223372036854775808) = some ((pickR l ((i : Int) % 9223372036854775808)).1, (pickR l ((i : Int) % 9223372036854775808)).2) :=
  (rPick_ev l hl _ (by omega)).rounds
theorem boxed_below {W W' : World} {B k : Nat} {t : TypeId} {v : Value} (h : Boxed W B t v) (hb : Below k W W') (hlt : B < k) : Boxed W' B t v := (hb.block B hlt).trans h
theorem keepsOthers_drawn {W W' : World} (h : Drawn0 W W') : KeepsOthers W W' := by
  obtain ⟨n, rfl⟩ := h
  induction n with
  | zero => exact KeepsOthers.refl _
  | succ n ih => rw [← World.drew_drewN]; exact ih.trans (KeepsOthers.drew _)
theorem KpA_below {n₀ N1 : Nat} {W W' : World} (hb : Below W.heap.size W W') (hn : n₀ ≤ W.heap.size) : KpA n₀ N1 W W' :=
  ⟨hb.mono hn, fun b o _ ho _ => (hb.block b (Array.getElem?_eq_some_iff.1 ho).1).trans ho⟩
theorem KpA_set {n₀ N1 B : Nat} {W : World} (v : Value) (h1 : n₀ ≤ B) (h2 : B < N1) : KpA n₀ N1 W (W.setCell ⟨B, 0, none⟩ v) :=
  ⟨(Below.refl n₀ W).setCell (p := ⟨B, 0, none⟩) h1 _, fun b o hb ho _ => ((grownBy_setCell' W B v).block b (Array.getElem?_eq_some_iff.1 ho).1 (fun e => by cases e; omega)).trans ho⟩
theorem ends_range {ini : List Nat} {i k : Nat} (h : ini ++ [i] = List.range k) : k = i + 1 ∧ ini.length = i := by
  cases k with
  | zero => simp at h
  | succ k =>
    rw [List.range_succ] at h
    obtain ⟨h1, h2⟩ := List.append_inj' h rfl
    obtain rfl : i = k := by simpa using h2
    exact ⟨rfl, by rw [h1, List.length_range]⟩
/-- What makes the round's body say false. -/
def bad (l : List S79) (i n : Nat) : Prop := ¬ (((i : Int) % 9223372036854775808) = (n : Int) ∧ (pickR l ((i : Int) % 9223372036854775808)).2 = 0 ∧ (tx l i).toList = (pickR l ((i : Int) % 9223372036854775808)).1.toList)
theorem not_bad (l : List S79) (hN : (texts l).length ≤ 9223372036854775806) (i : Nat) (h : i < (texts l).length) : ¬ bad l i i := by
  unfold bad
  rw [show (i : Int) % 9223372036854775808 = i by omega, pick_texts l i h]
  simp [tx]
set_option maxRecDepth 100000 in
set_option maxHeartbeats 4000000 in
theorem BagAll_small {w : World} (A : Option Addr) (c : Nat) (l : List S79) (hr : Kd.C k79 w A l.length l) (hc : l.length ≤ c) (hl : l.length < 5864062014806) (most : Int) (hs : smallB l = true) :
    Calls Try.prog 4 #[.slice A l.length c, .int .i64 most] w fun e w' => e = .returned (.bool true) ∧ Below w.heap.size w w' := by
  obtain ⟨k0, hsh⟩ := shown_ok
  obtain ⟨k1, hsm⟩ := (small_ev l hl).rounds
  obtain ⟨k2, hln⟩ := (rLen_ev l hl).rounds
  obtain ⟨_, hx, hN⟩ := smallB_len l hs
  rw [hs] at hsm
  rw [lenGo_texts l 0 (by omega) (by omega), Int.zero_add] at hln
  have hr0 := Aside0.mk hr
  have hc0 := Aside0.mk hc
  have hx0 := Aside0.mk hx
  clear hr hc hx
  refine (callsIn_wide (n := 3)).1 ?_
  refine callsIn_of_wp_marks Try.func4 rfl trivial ?_ rfl
  simp only [Try.ntmps4, List.size_toArray, List.length_cons, List.length_nil, Nat.reduceAdd, Nat.reduceSub, Array.replicate_succ, Array.replicate_zero, List.push_toArray, List.append_toArray, List.nil_append, List.cons_append]
  gi_wp2_with (first
    | (refine ⟨trivial, ?_⟩; gi_at_call 14; refine (callsIn_wide.2 (ferrulelaw18_shown.calls k0 true _ hsh)).mono ?_; rintro e w1 ⟨rfl, hb1⟩; have hB1 : Below w.heap.size w w1 := ((((Below.refl _ w).alloc (Nat.le_refl _) _).alloc (by simp) _).alloc (by simp; omega) _).trans (hb1.mono (by simp; omega)); have B0 := boxed_below (((Boxed.new w 22 (.slice A l.length c)).alloc _).alloc _) hb1 (by simp; omega); have B1 := boxed_below ((Boxed.new (w.alloc _) 3 (.int .i64 most)).alloc _) hb1 (by simp); have B2 := boxed_below (Boxed.new ((w.alloc _).alloc _) 4 (.bool false)) hb1 (by simp); simp only [World.size_alloc] at B0 B1 B2; have hs1 := B2.lt; clear hb1; have hcb := B0.cell)
    | (refine ⟨trivial, ?_⟩; gi_at_call 19; refine (callsIn_wide.2 (ferrulelaw18_small.calls k1 A c l true _ (Kd.C_below hr0.out hB1) hc0.out hsm)).mono ?_; rintro e w2 ⟨rfl, hd2⟩; have hb2 := hd2.below; clear hd2; have hcb2 := (boxed_below B0 hb2 (by omega)).cell; have hcb3 := ((boxed_below B0 hb2 (by omega)).alloc (.cells #[.int .i64 0] 3)).cell; have hs2 : w.heap.size + 1 + 1 < w2.heap.size := Nat.lt_of_lt_of_le hs1 hb2.size)
    | (refine ⟨trivial, ?_⟩; gi_at_call 20; refine (all_in Fence.wide _ trivial rfl _ _ _ _).mono ?_; rintro e w3 ⟨rfl, rfl⟩))
  have hB2 : Below w.heap.size w w2 := hB1.trans (hb2.mono hB1.size)
  have N0 := ((boxed_below B0 hb2 (by omega)).alloc (.cells #[.int .i64 0] 3)).alloc (.cells #[.slice A l.length c] 22)
  have N1 := ((boxed_below B1 hb2 (by omega)).alloc (.cells #[.int .i64 0] 3)).alloc (.cells #[.slice A l.length c] 22)
  have N2 := ((boxed_below B2 hb2 (by omega)).alloc (.cells #[.int .i64 0] 3)).alloc (.cells #[.slice A l.length c] 22)
  have N3 := (Boxed.new w2 3 (.int .i64 0)).alloc (.cells #[.slice A l.length c] 22)
  have N4 := Boxed.new (w2.alloc (.cells #[.int .i64 0] 3)) 22 (.slice A l.length c)
  rw [World.size_alloc] at N4
  have hB3 : Below w.heap.size w ((w2.alloc (.cells #[.int .i64 0] 3)).alloc (.cells #[.slice A l.length c] 22)) := (hB2.alloc (by omega) _).alloc (by simp; omega) _
  have hown := ownFrom_below (β := List Nat) (n₀ := w.heap.size) (B := ((w2.alloc (.cells #[.int .i64 0] 3)).alloc (.cells #[.slice A l.length c] 22)).heap.size) (w₀ := w) (Nat.le_refl _) (by simp; omega)
  clear B0 B1 B2 hcb hcb2 hcb3
  refine wpIn_rangeFunc_ownG rfl (by omega) (gf := 47) (lb := #[.pointer (some ⟨w2.heap.size + 1, 0, none⟩)]) rfl trivial (enters_of Try.func47 (by kernel_rfl) rfl)
    (all_stops Fence.wide _ trivial rfl (by omega) (w2.heap.size + 1) A c l w hr0.out hl (by omega) (fun x hx => by have := hx0.out x hx; omega) _ hB3 (by simp) N4.cell) KpA_t (KpA_b (by simp; omega)) (Below.refl _ _) (fun _ => rfl)
    (fun pre W => (Boxed W w.heap.size 22 (.slice A l.length c) ∧ Boxed W (w.heap.size + 1) 3 (.int .i64 most) ∧ Boxed W (w.heap.size + 1 + 1) 4 (.bool false) ∧ Boxed W w2.heap.size 3 (.int .i64 ((pre.length : Nat) : Int))) ∧ Below w.heap.size w W)
    (fun c' pre W => ((c' = .ret ∧ ∃ ini i, pre = ini ++ [i] ∧ bad l i ini.length) ∨ (c' = .exit 0 ∧ (Boxed W w.heap.size 22 (.slice A l.length c) ∧ Boxed W (w.heap.size + 1) 3 (.int .i64 most) ∧ Boxed W (w.heap.size + 1 + 1) 4 (.bool false) ∧ Boxed W w2.heap.size 3 (.int .i64 ((pre.length : Nat) : Int))) ∧ ((pre.length : Nat) : Int) = most)) ∧ Below w.heap.size w W)
    (OwnFrom.and (OwnFrom.and ((boxed_own _ _ _).from _) (OwnFrom.and ((boxed_own _ _ _).from _) (OwnFrom.and ((boxed_own _ _ _).from _) ((boxed_own _ _ (fun pre : List Nat => .int .i64 ((pre.length : Nat) : Int))).from _)))) hown)
    (fun c' => OwnFrom.and (fun s W W' row h hg hrow => by
      rcases h with h | ⟨e, ⟨h0, h1, h2, h3⟩, h4⟩
      · exact .inl h
      · exact .inr ⟨e, ⟨(boxed_own (β := List Nat) _ _ (fun _ => _)).from _ s W W' row h0 hg hrow, (boxed_own (β := List Nat) _ _ (fun _ => _)).from _ s W W' row h1 hg hrow, (boxed_own (β := List Nat) _ _ (fun _ => _)).from _ s W W' row h2 hg hrow, (boxed_own (β := List Nat) _ _ (fun _ => _)).from _ s W W' row h3 hg hrow⟩, h4⟩) hown)
    ⟨⟨N0, N1, N2, N3⟩, hB3⟩
    (fun x => { tmps := #[.slice A l.length c, .int .i64 most, .pointer (some ⟨w.heap.size, 0, none⟩), .pointer (some ⟨w.heap.size + 1, 0, none⟩), .pointer (some ⟨w.heap.size + 1 + 1, 0, none⟩), .bool true, .bool true, .pointer (some ⟨w2.heap.size, 0, none⟩), .int .i64 ((x : Int) % 9223372036854775808), .string (tx l x), undef, undef, undef, .bool true, .slice A l.length c, .bool true, .bool true, .bool false, .bool false, .bool true, .bool false, .bool false, undef, .slice A l.length c, .func (.func 47) #[] #[.pointer (some ⟨w2.heap.size + 1, 0, none⟩)], .int .i64 ((x : Int) % 9223372036854775808), .string (tx l x), undef, undef, undef, undef, undef, undef, undef, undef, undef, undef, undef, undef, undef, undef, undef, undef, undef, undef, undef, undef, undef, undef, undef, undef, undef, undef, undef, undef, undef, undef, undef, undef, undef], defers := [] }) ?assign ?body ?done ?stop
  case assign =>
    intro lp x W K hK
    unfold encA
    gi_wp2
    exact hK
  case body =>
    rintro lp pre x W ⟨⟨I0, I1, I2, I3⟩, hB⟩ hlen
    obtain ⟨k3, hpk⟩ := pick_some l hl x
    have c0 := I0.cell
    have c3 := I3.cell
    have f3 := I3.frozen
    have f2 := I2.frozen
    gi_wp2_with (refine ⟨trivial, ?_⟩; gi_at_call 21; refine (CallsIn.inRound lp (callsIn_wide.2 (ferruleref18_Pick.calls k3 A c l _ _ _ _ (Kd.C_below hr0.out hB) hc0.out hpk))).mono ?_; rintro e W2 ⟨rfl, hd⟩; have hbd := hd.below; have hko := keepsOthers_drawn hd; clear hd; have J0 := boxed_below I0 hbd I0.lt; have J1 := boxed_below I1 hbd I1.lt; have J2 := boxed_below I2 hbd I2.lt; have J3 := boxed_below I3 hbd I3.lt; have j0 := J0.cell; have j1 := J1.cell; have j2 := J2.cell; have j3 := J3.cell; have g2 := J2.frozen; have g3 := J3.frozen; have j1' := (J1.other (B' := w2.heap.size) (by omega) (.int .i64 ((pre.length : Int) + 1))).cell; have j3' := (J3.set (.int .i64 ((pre.length : Int) + 1))).cell)
    all_goals have hB' := hB.trans (hbd.mono hB.size)
    all_goals have hlast : ((List.length (pre ++ [x]) : Nat) : Int) = (pre.length : Int) + 1 := by simp
    all_goals first
      | (refine ⟨(hko.trans (KeepsOthers.setCell _ _ _)).from _, .inl ⟨rfl, pre, x, rfl, ?_⟩, hB'.setCell (p := ⟨w.heap.size + 1 + 1, 0, none⟩) (by simp; omega) _⟩
         rintro ⟨e1, e2, e3⟩
         simp_all)
      | (refine ⟨(hko.trans (KeepsOthers.setCell _ _ _)).from _, .inr ⟨rfl, ⟨J0.other (by omega) _, J1.other (by omega) _, J2.other (by omega) _, by rw [hlast]; exact J3.set _⟩, ?_⟩, hB'.setCell (p := ⟨w2.heap.size, 0, none⟩) (by simp; omega) _⟩
         rw [hlast]; first | assumption | (refine eq_of_beq ?_; assumption))
      | exact ⟨(hko.trans (KeepsOthers.setCell _ _ _)).from _, KpA_t (KpA_below hbd hB.size) (KpA_set _ (by omega) (by simp; omega)), ⟨J0.other (by omega) _, J1.other (by omega) _, J2.other (by omega) _, by rw [hlast]; exact J3.set _⟩, hB'.setCell (p := ⟨w2.heap.size, 0, none⟩) (by simp; omega) _⟩
      | trace_state
  case done =>
    rintro D ys W hD rfl ⟨⟨I0, I1, I2, I3⟩, hB⟩ hK
    have c0 := I0.cell
    have c1 := I1.cell
    have c3 := I3.cell
    gi_wp2_with (refine ⟨trivial, ?_⟩; gi_at_call 18; refine (callsIn_wide.2 (ferruleref18_Len.calls k2 A c l _ _ (Kd.C_below hr0.out hB) hc0.out hln)).mono ?_; rintro e W2 ⟨rfl, hd⟩; have hbd := hd.below; clear hd; have J0 := boxed_below I0 hbd I0.lt; have J1 := boxed_below I1 hbd I1.lt; have J2 := boxed_below I2 hbd I2.lt; have J3 := boxed_below I3 hbd I3.lt; have j0 := J0.cell; have j1 := J1.cell; have j2 := J2.cell; have j3 := J3.cell; have g2 := J2.frozen; have hK2 := (hbd.block D (Array.getElem?_eq_some_iff.1 hK).1).trans hK)
    all_goals
      have hK3 := (KeepsOthers.setCell W2 ⟨w.heap.size + 1 + 1, 0, none⟩ (.bool true)).same D _ hK2 rfl
      have hB' := (hB.trans (hbd.mono hB.size)).setCell (p := ⟨w.heap.size + 1 + 1, 0, none⟩) (by simp; omega) (.bool true)
      have hc5 := Go.cell_kept (J2.set (.bool true)).cell (grownBy_putObj' _ D (.deferred none)) (fun r e => by cases e; exact ⟨_, hK3, rfl⟩)
      refine ⟨by simp, .inl ⟨_, _, rfl, run_takeDeferred hK3, ?_⟩⟩
      refine ⟨.bool true, ?_, rfl, hB'.trans (belowK_b (w := w) (Nat.le_refl _) _ D _ _ (by simp at hD; omega) hK3 rfl rfl)⟩
      simp [results, Try.f4, go_sem, hc5]
  case stop =>
    rintro D c' pre W hD ⟨k, hk, rfl⟩ ⟨h, hB⟩ hK
    rcases h with ⟨rfl, ini, i, h1, h2⟩ | ⟨rfl, ⟨I0, I1, I2, I3⟩, hm⟩
    · exfalso
      obtain ⟨e1, e2⟩ := ends_range h1.symm
      exact not_bad l (by omega) i (by omega) (by rw [← e2]; rw [e2] at h2 ⊢; exact h2)
    · rw [List.length_range] at hm I3
      obtain rfl : most = k := hm.symm
      have c0 := I0.cell
      have c1 := I1.cell
      have c3 := I3.cell
      gi_wp2_with (refine ⟨trivial, ?_⟩; gi_at_call 18; refine (callsIn_wide.2 (ferruleref18_Len.calls k2 A c l _ _ (Kd.C_below hr0.out hB) hc0.out hln)).mono ?_; rintro e W2 ⟨rfl, hd⟩; have hbd := hd.below; clear hd; have J0 := boxed_below I0 hbd I0.lt; have J1 := boxed_below I1 hbd I1.lt; have J2 := boxed_below I2 hbd I2.lt; have J3 := boxed_below I3 hbd I3.lt; have j0 := J0.cell; have j1 := J1.cell; have j2 := J2.cell; have j3 := J3.cell; have g2 := J2.frozen; have hK2 := (hbd.block D (Array.getElem?_eq_some_iff.1 hK).1).trans hK)
      all_goals
        have hK3 := (KeepsOthers.setCell W2 ⟨w.heap.size + 1 + 1, 0, none⟩ (.bool true)).same D _ hK2 rfl
        have hB' := (hB.trans (hbd.mono hB.size)).setCell (p := ⟨w.heap.size + 1 + 1, 0, none⟩) (by simp; omega) (.bool true)
        have hc5 := Go.cell_kept (J2.set (.bool true)).cell (grownBy_putObj' _ D (.deferred none)) (fun r e => by cases e; exact ⟨_, hK3, rfl⟩)
        refine ⟨by simp, .inl ⟨_, _, rfl, run_takeDeferred hK3, ?_⟩⟩
        refine ⟨.bool true, ?_, rfl, hB'.trans (belowK_b (w := w) (Nat.le_refl _) _ D _ _ (by simp at hD; omega) hK3 rfl rfl)⟩
        simp [results, Try.f4, go_sem, hc5]
set_option maxRecDepth 100000 in
set_option maxHeartbeats 4000000 in
theorem BagAll_big {w : World} (A : Option Addr) (c : Nat) (l : List S79) (hr : Kd.C k79 w A l.length l) (hc : l.length ≤ c) (hl : l.length < 5864062014806) (most : Int) (hs : smallB l = false) :
    Calls Try.prog 4 #[.slice A l.length c, .int .i64 most] w fun e w' => e = .returned (.bool true) ∧ Below w.heap.size w w' := by
  obtain ⟨k0, hsh⟩ := shown_ok
  obtain ⟨k1, hsm⟩ := (small_ev l hl).rounds
  rw [hs] at hsm
  have hr0 := Aside0.mk hr
  have hc0 := Aside0.mk hc
  clear hr hc
  go_enter Try.func4, Try.ntmps4
  go_wp2_with (first
    | (go_at_call 14; refine (ferrulelaw18_shown.calls k0 true _ hsh).mono ?_; rintro e w1 ⟨rfl, hb1⟩; have hB1 : Below w.heap.size w w1 := ((((Below.refl _ w).alloc (Nat.le_refl _) _).alloc (by simp) _).alloc (by simp; omega) _).trans (hb1.mono (by simp; omega)); have B0 := boxed_below (((Boxed.new w 22 (.slice A l.length c)).alloc _).alloc _) hb1 (by simp; omega); have B2 := boxed_below (Boxed.new ((w.alloc _).alloc _) 4 (.bool false)) hb1 (by simp); simp only [World.size_alloc] at B0 B2; have hs1 := B2.lt; clear hb1; have hcb := B0.cell)
    | (go_at_call 19; refine (ferrulelaw18_small.calls k1 A c l false _ (Kd.C_below hr0.out hB1) hc0.out hsm).mono ?_; rintro e w2 ⟨rfl, hd2⟩; have hb2 := hd2.below; clear hd2; have b2 := boxed_below B2 hb2 (by omega); have hc2 := b2.cell; have hf2 := b2.frozen; have hc3 := (b2.set (.bool true)).cell; have hB2 : Below w.heap.size w w2 := hB1.trans (hb2.mono hB1.size)))
  refine bodyPost_ret (v := .bool true) ?_ rfl ?_
  · simp [results, Try.f4, go_sem, hc3]
  · exact ⟨rfl, hB2.setCell (p := ⟨w.heap.size + 1 + 1, 0, none⟩) (by simp; omega) _⟩
theorem BagAll_walk {w : World} (A : Option Addr) (c : Nat) (l : List S79) (hr : Kd.C k79 w A l.length l) (hc : l.length ≤ c) (hs : l.length * Try.prog.bytesOf 79 ≤ 140737488351232 ∧ ∀ x ∈ l, ok79 x) (most : Int) (hk : (Lit.int .i64 most).wf = true) :
    Calls Try.prog 4 #[.slice A l.length c, .int .i64 most] w fun e w' => e = .returned (.bool true) ∧ Below w.heap.size w w' := by
  have hb : Try.prog.bytesOf 79 = 24 := by kernel_rfl
  rw [hb] at hs
  cases hsb : smallB l with
  | false => exact BagAll_big A c l hr hc (by omega) most hsb
  | true => exact BagAll_small A c l hr hc (by omega) most hsb
end Go.Proofs.Ythfkbfahpgdnfaa.PAll
