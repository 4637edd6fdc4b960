/- Joined texts of the claim LeaseMost (part 41): contracts of functions and plain laws. -/
import Derived.Test.YtlmefnifhbcbcaaJLeaseMost22
import Derived.Test.YtlmefnifhbcbcaaJLeaseMost37
import Derived.Test.YtlmefnifhbcbcaaJLeaseMost38
import Derived.Test.YtlmefnifhbcbcaaJLeaseMost39
import Derived.Test.YtlmefnifhbcbcaaJLeaseMost40
section
/- lease.Until and lease.Holds, as the printed texts call them. -/
namespace Go.Proofs.Ytlmefnifhbcbcaa.PAll
open Go.RowKit Go.Proofs.YtlmefnifhbcbcaaW.PrintWords Go.Proofs.YtlmefnifhbcbcaaW.PrintMore Go.Proofs.Ytlmefnifhbcbcaa
set_option linter.unusedVariables false
set_option linter.unusedSimpArgs false
/-- How long the leader may believe. -/
def untV (v : List Int) (m : List S39) (id now : Int) (span d : Nat) : Int :=
  if bndN span d = 0 ∨ agrV v (setV m id now) = 0 then 0 else if 18446744073709551616 ≤ agrV v (setV m id now) + (bndN span d : Int) then 18446744073709551615 else agrV v (setV m id now) + (bndN span d : Int)
def untOk (v : List Int) (m : List S39) (id now span d : Int) : Prop := v.length ≤ 17592186044404 ∧ m.length < 8796093022208 ∧ natM (setV m id now) = true ∧ (0 ≤ span ∧ span < 18446744073709551616) ∧ (0 ≤ d ∧ d < 18446744073709551616) ∧ 0 ≤ agrV v (setV m id now)
instance (v : List Int) (m : List S39) (id now span d : Int) : Decidable (untOk v m id now span d) := by unfold untOk; infer_instance
theorem keep2 {n : Nat} {a b : Value} {w W w' : World} (h : W.cell? ⟨n, 0, none⟩ = some a ∧ W.cell? ⟨n, 1, none⟩ = some b ∧ Below w.heap.size w W) (hb : Below W.heap.size W w') : w'.cell? ⟨n, 0, none⟩ = some a ∧ w'.cell? ⟨n, 1, none⟩ = some b ∧ Below w.heap.size w w' :=
  ⟨(hb.cell (World.block_lt_of_cell? _ _ h.1)).trans h.1, (hb.cell (World.block_lt_of_cell? _ _ h.2.1)).trans h.2.1, h.2.2.trans (hb.mono h.2.2.size)⟩
def lease_Until.f (l0_0 l0_1 : List Int) (a1 a2 : Int) (l3 : List S39) (a4 a5 : Int) : Option Int := if untOk l0_0 l3 a1 a2 a4 a5 then some (untV l0_0 l3 a1 a2 a4.toNat a5.toNat) else none
set_option maxHeartbeats 4000000 in
set_option maxRecDepth 100000 in
theorem lease_Until.calls (A0_0 : Option Addr) (c0_0 : Nat) (l0_0 : List Int) (A0_1 : Option Addr) (c0_1 : Nat) (l0_1 : List Int) (a1 a2 : Int) (A3 : Option Addr) (c3 : Nat) (l3 : List S39) (a4 a5 : Int) (r : Int) (w : World) (hr0_0 : Kd.C (Kd.int .u64) w A0_0 l0_0.length l0_0) (hc0_0 : l0_0.length ≤ c0_0) (hr0_1 : Kd.C (Kd.int .u64) w A0_1 l0_1.length l0_1) (hc0_1 : l0_1.length ≤ c0_1) (hr3 : Kd.C k39 w A3 l3.length l3) (hc3 : l3.length ≤ c3) (h : lease_Until.f l0_0 l0_1 a1 a2 l3 a4 a5 = some r) :
    Calls Try.prog 20 #[.agg #[.slice A0_0 l0_0.length c0_0, .slice A0_1 l0_1.length c0_1], .int .u64 a1, .int .u64 a2, .slice A3 l3.length c3, .int .u64 a4, .int .u64 a5] w fun e w' => e = .returned (.int .u64 r) ∧ Below w.heap.size w w' := by
  unfold lease_Until.f at h
  split at h
  case isFalse => cases h
  rename_i hok
  obtain ⟨hv, hm, hnat, ⟨hs0, hs1⟩, ⟨hd0, hd1⟩, hag⟩ := hok
  obtain rfl := Option.some.inj h
  clear h
  have HB0 := Aside0.mk ((Below.refl w.heap.size w).alloc (Nat.le_refl _) (.cells #[.slice A0_0 l0_0.length c0_0, .slice A0_1 l0_1.length c0_1] 28))
  have hbx := heap_alloc_new w (.cells #[.slice A0_0 l0_0.length c0_0, .slice A0_1 l0_1.length c0_1] 28)
  have hS0 : (w.alloc (.cells #[.slice A0_0 l0_0.length c0_0, .slice A0_1 l0_1.length c0_1] 28)).cell? ⟨w.heap.size, 0, none⟩ = some (.slice A0_0 l0_0.length c0_0) ∧ (w.alloc (.cells #[.slice A0_0 l0_0.length c0_0, .slice A0_1 l0_1.length c0_1] 28)).cell? ⟨w.heap.size, 1, none⟩ = some (.slice A0_1 l0_1.length c0_1) ∧ Below w.heap.size w (w.alloc (.cells #[.slice A0_0 l0_0.length c0_0, .slice A0_1 l0_1.length c0_1] 28)) := ⟨cell_row (cs := [.slice A0_0 l0_0.length c0_0, .slice A0_1 l0_1.length c0_1]) hbx 0, cell_row (cs := [.slice A0_0 l0_0.length c0_0, .slice A0_1 l0_1.length c0_1]) hbx 1, HB0.out⟩
  have HSET := Aside0.mk (fun W (hW : Below w.heap.size w W) => group_Set.calls A3 c3 l3 a1 a2 _ W (Kd.C_below hr3 hW) hc3 (gSet_eq l3 a1 a2 hm))
  have HAGR := Aside0.mk (fun W (hW : Below w.heap.size w W) (A : Option Addr) (c : Nat) (hc : (setV l3 a1 a2).length ≤ c) (hC : Kd.C k39 W A (setV l3 a1 a2).length (setV l3 a1 a2)) => group_Agreed.calls A0_0 c0_0 l0_0 A0_1 c0_1 l0_1 A c (setV l3 a1 a2) _ W (Kd.C_below hr0_0 hW) hc0_0 (Kd.C_below hr0_1 hW) hc0_1 hC hc (show group_Agreed.f l0_0 l0_1 (setV l3 a1 a2) = some (agrV l0_0 (setV l3 a1 a2)) by unfold group_Agreed.f; rw [if_pos ⟨hnat, hv⟩]))
  have HBND := Aside0.mk (fun W => gbound_calls a4.toNat a5.toNat (by omega) (by omega) W)
  rw [Int.toNat_of_nonneg hs0, Int.toNat_of_nonneg hd0] at HBND
  have hadd := add64 (agrV l0_0 (setV l3 a1 a2)) (bndN a4.toNat a5.toNat : Nat) hag (by omega)
  have HADD := Aside0.mk hadd
  have HAG := Aside0.mk hag
  have HU : Aside0 (untV l0_0 l3 a1 a2 a4.toNat a5.toNat = if bndN a4.toNat a5.toNat = 0 ∨ agrV l0_0 (setV l3 a1 a2) = 0 then 0 else if 18446744073709551616 ≤ agrV l0_0 (setV l3 a1 a2) + (bndN a4.toNat a5.toNat : Int) then 18446744073709551615 else agrV l0_0 (setV l3 a1 a2) + (bndN a4.toNat a5.toNat : Int)) := ⟨rfl⟩
  clear hr0_0 hr0_1 hr3 hc0_0 hc0_1 hc3 hv hm hnat hs0 hs1 hd0 hd1 hag hbx hadd
  generalize untV l0_0 l3 a1 a2 a4.toNat a5.toNat = res at *
  generalize bndN a4.toNat a5.toNat = bb at *
  generalize agrV l0_0 (setV l3 a1 a2) = kk at *
  generalize setV l3 a1 a2 = ml at *
  go_enter Try.func20, Try.ntmps20
  go_wp2
  generalize w.alloc (.cells #[.slice A0_0 l0_0.length c0_0, .slice A0_1 l0_1.length c0_1] 28) = W1 at *
  go_region_held3 (fun w' => w'.cell? ⟨w.heap.size, 0, none⟩ = some (.slice A0_0 l0_0.length c0_0) ∧ w'.cell? ⟨w.heap.size, 1, none⟩ = some (.slice A0_1 l0_1.length c0_1) ∧ Below w.heap.size w w') (first | exact keep2 (by assumption) (by assumption) | exact keep2 (by assumption) ((Below.refl _ _).drew))
    (first
      | (go_at_call 35; with_reducible refine (HSET.out _ (by assumption : _ ∧ _ ∧ Below w.heap.size w _).2.2).mono ?_; rintro e w' ⟨v0, rfl, ho, hb⟩; obtain ⟨A2, c2, rfl, hc2, hC2⟩ := Kd.R_reads ho; have HC2 := Aside0.mk hc2; have HCC := Aside0.mk hC2; clear ho hc2 hC2)
      | (go_at_call 27; with_reducible refine (HAGR.out _ (by assumption : _ ∧ _ ∧ Below w.heap.size w _).2.2 _ _ HC2.out HCC.out).mono ?_; rintro e w' ⟨rfl, hb⟩)
      | (go_at_call 18; with_reducible refine (HBND.out _).mono ?_; rintro e w' ⟨rfl, hb⟩))
  by_cases c1 : bb = 0
  · subst c1
    have HE : Aside0 (res = 0) := ⟨by rw [HU.out, if_pos (Or.inl rfl)]⟩
    go_wp2
    go_ret
    exact ⟨ret_u HE.out.symm, (by assumption : _ ∧ _ ∧ Below w.heap.size w _).2.2⟩
  · have c1b : ((bb : Int) == 0) = false := by simp; omega
    have c1z : ¬ (bb : Int) = 0 := by omega
    by_cases c2 : kk = 0
    · subst c2
      have HE : Aside0 (res = 0) := ⟨by rw [HU.out, if_pos (Or.inr rfl)]⟩
      clear c1
      go_wp2
      go_ret
      exact ⟨ret_u HE.out.symm, (by assumption : _ ∧ _ ∧ Below w.heap.size w _).2.2⟩
    · have c2b : (kk == 0) = false := by simpa using c2
      by_cases c3 : 18446744073709551616 ≤ kk + (bb : Int)
      · have HE : Aside0 (res = 18446744073709551615) := ⟨by rw [HU.out, if_neg (by omega), if_pos c3]⟩
        have hcar : (0 : Int) < (kk + (bb : Int)) / 18446744073709551616 := by omega
        have hadd := HADD.out
        clear c3 c1
        go_wp2
        go_ret
        exact ⟨ret_u HE.out.symm, (by assumption : _ ∧ _ ∧ Below w.heap.size w _).2.2⟩
      · have HE : Aside0 (res = kk + (bb : Int)) := ⟨by rw [HU.out, if_neg (by omega), if_neg c3]⟩
        have hcar : (kk + (bb : Int)) / 18446744073709551616 = 0 := by have := HAG.out; omega
        have hrem : (kk + (bb : Int)) % 18446744073709551616 = kk + (bb : Int) := by have := HAG.out; omega
        have hadd := HADD.out
        rw [hcar, hrem] at hadd
        clear c3 c1 hcar hrem
        go_wp2
        go_ret
        exact ⟨ret_u HE.out.symm, (by assumption : _ ∧ _ ∧ Below w.heap.size w _).2.2⟩
theorem holds1 (B : Nat) (A : Option Addr) (c : Nat) (l : List Int) (x : Int) (W : World) (hB : W.cell? ⟨B, 0, none⟩ = some (.int .u64 x)) (hr : Kd.C (Kd.int .u64) W A l.length l) (hc : l.length ≤ c) (hl : l.length ≤ 9223372036854775806) :
    Calls Try.prog 54 #[.slice A l.length c, .pointer (some ⟨B, 0, none⟩)] W fun e W' => e = .returned (.bool (hasI l x)) ∧ Below W.heap.size W W' := by
  have HR := Aside0.mk hr
  have HC := Aside0.mk hc
  have HL := Aside0.mk hl
  clear hr hc hl
  go_enter Try.func54, Try.ntmps54
  go_wp2_with (go_at_call 55; refine (contains_calls A c l x _ HR.out HC.out HL.out).mono ?_; rintro e w2 ⟨rfl, n, rfl⟩)
  go_ret
  exact ⟨rfl, pw_below_drewN (Below.refl _ _) _⟩
def holdsV (v l : List Int) (m : List S39) (id now : Int) (span d : Nat) : Bool := mayV v l && hasI v id && decide (now < untV v m id now span d)
def lease_Holds.f (l0_0 l0_1 : List Int) (a1 a2 : Int) (l3 : List S39) (a4 a5 : Int) : Option Bool := if untOk l0_0 l3 a1 a2 a4 a5 ∧ l0_1.length ≤ 9223372036854775806 then some (holdsV l0_0 l0_1 l3 a1 a2 a4.toNat a5.toNat) else none
theorem keep3 {n m : Nat} {a b c : Value} {w W w' : World} (h : W.cell? ⟨n, 0, none⟩ = some a ∧ W.cell? ⟨n, 1, none⟩ = some b ∧ W.cell? ⟨m, 0, none⟩ = some c ∧ Below w.heap.size w W) (hb : Below W.heap.size W w') : w'.cell? ⟨n, 0, none⟩ = some a ∧ w'.cell? ⟨n, 1, none⟩ = some b ∧ w'.cell? ⟨m, 0, none⟩ = some c ∧ Below w.heap.size w w' :=
  ⟨(hb.cell (World.block_lt_of_cell? _ _ h.1)).trans h.1, (hb.cell (World.block_lt_of_cell? _ _ h.2.1)).trans h.2.1, (hb.cell (World.block_lt_of_cell? _ _ h.2.2.1)).trans h.2.2.1, h.2.2.2.trans (hb.mono h.2.2.2.size)⟩
set_option maxHeartbeats 4000000 in
set_option maxRecDepth 100000 in
theorem lease_Holds.calls (A0_0 : Option Addr) (c0_0 : Nat) (l0_0 : List Int) (A0_1 : Option Addr) (c0_1 : Nat) (l0_1 : List Int) (a1 a2 : Int) (A3 : Option Addr) (c3 : Nat) (l3 : List S39) (a4 a5 : Int) (r : Bool) (w : World) (hr0_0 : Kd.C (Kd.int .u64) w A0_0 l0_0.length l0_0) (hc0_0 : l0_0.length ≤ c0_0) (hr0_1 : Kd.C (Kd.int .u64) w A0_1 l0_1.length l0_1) (hc0_1 : l0_1.length ≤ c0_1) (hr3 : Kd.C k39 w A3 l3.length l3) (hc3 : l3.length ≤ c3) (h : lease_Holds.f l0_0 l0_1 a1 a2 l3 a4 a5 = some r) :
    Calls Try.prog 21 #[.agg #[.slice A0_0 l0_0.length c0_0, .slice A0_1 l0_1.length c0_1], .int .u64 a1, .int .u64 a2, .slice A3 l3.length c3, .int .u64 a4, .int .u64 a5] w fun e w' => e = .returned (.bool r) ∧ Below w.heap.size w w' := by
  unfold lease_Holds.f at h
  split at h
  case isFalse => cases h
  rename_i hok
  obtain ⟨hok, hl1⟩ := hok
  have hv : l0_0.length ≤ 9223372036854775806 := by have := hok.1; omega
  obtain rfl := Option.some.inj h
  clear h
  have HMAY := Aside0.mk (fun W (hW : Below w.heap.size w W) => group_May.calls A0_0 c0_0 l0_0 A0_1 c0_1 l0_1 _ W (Kd.C_below hr0_0 hW) hc0_0 (Kd.C_below hr0_1 hW) hc0_1 (show group_May.f l0_0 l0_1 = some (mayV l0_0 l0_1) by unfold group_May.f; rw [if_pos ⟨hv, hl1⟩]))
  have HSIT := Aside0.mk (fun W (hW : Below w.heap.size w W) B (hB : W.cell? ⟨B, 0, none⟩ = some (.int .u64 a1)) => holds1 B A0_0 c0_0 l0_0 a1 W hB (Kd.C_below hr0_0 hW) hc0_0 hv)
  have HUN := Aside0.mk (fun W (hW : Below w.heap.size w W) => lease_Until.calls A0_0 c0_0 l0_0 A0_1 c0_1 l0_1 a1 a2 A3 c3 l3 a4 a5 _ W (Kd.C_below hr0_0 hW) hc0_0 (Kd.C_below hr0_1 hW) hc0_1 (Kd.C_below hr3 hW) hc3 (show lease_Until.f l0_0 l0_1 a1 a2 l3 a4 a5 = some (untV l0_0 l3 a1 a2 a4.toNat a5.toNat) by unfold lease_Until.f; rw [if_pos hok]))
  have HV : Aside0 (holdsV l0_0 l0_1 l3 a1 a2 a4.toNat a5.toNat = (mayV l0_0 l0_1 && hasI l0_0 a1 && decide (a2 < untV l0_0 l3 a1 a2 a4.toNat a5.toNat))) := ⟨rfl⟩
  have HB0 := Aside0.mk (((Below.refl w.heap.size w).alloc (Nat.le_refl _) (.cells #[.slice A0_0 l0_0.length c0_0, .slice A0_1 l0_1.length c0_1] 28)).alloc (by simp) (.cells #[.int .u64 a1] 22))
  have hbx := heap_two w (.cells #[.slice A0_0 l0_0.length c0_0, .slice A0_1 l0_1.length c0_1] 28) (.cells #[.int .u64 a1] 22)
  have hby := heap_snd w (.cells #[.slice A0_0 l0_0.length c0_0, .slice A0_1 l0_1.length c0_1] 28) (.cells #[.int .u64 a1] 22)
  have HS := Aside0.mk (And.intro (cell_row (cs := [.slice A0_0 l0_0.length c0_0, .slice A0_1 l0_1.length c0_1]) hbx 0) (And.intro (cell_row (cs := [.slice A0_0 l0_0.length c0_0, .slice A0_1 l0_1.length c0_1]) hbx 1) (And.intro (cell_row (cs := [.int .u64 a1]) hby 0) HB0.out)))
  clear hr0_0 hr0_1 hr3 hc0_0 hc0_1 hc3 hv hbx hby hok hl1
  generalize holdsV l0_0 l0_1 l3 a1 a2 a4.toNat a5.toNat = res at *
  generalize untV l0_0 l3 a1 a2 a4.toNat a5.toNat = un at *
  generalize mayV l0_0 l0_1 = m1 at *
  generalize hasI l0_0 a1 = m2 at *
  cases m1 <;> cases m2
  all_goals
    go_enter Try.func21, Try.ntmps21
    go_wp2_with (first
      | (go_at_call 37; with_reducible refine (HMAY.out _ HB0.out).mono ?_; rintro e w1 ⟨rfl, hb1⟩; have HS1 := keep3 HS.out hb1; have hq0 := HS1.1; have hq1 := HS1.2.1; have hq2 := HS1.2.2.1; have HX1 := Aside0.mk HS1; clear HS1 hb1)
      | (go_at_call 54; with_reducible refine (HSIT.out _ HX1.out.2.2.2 _ HX1.out.2.2.1).mono ?_; rintro e w2 ⟨rfl, hb2⟩; have HS2 := keep3 HX1.out hb2; have hq3 := HS2.1; have hq4 := HS2.2.1; have hq5 := HS2.2.2.1; have HX2 := Aside0.mk HS2; clear HS2 hb2)
      | (go_at_call 20; with_reducible refine (HUN.out _ HX2.out.2.2.2).mono ?_; rintro e w3 ⟨rfl, hb3⟩; have HX3 := Aside0.mk (keep3 HX2.out hb3); clear hb3))
    go_ret
    first
      | exact ⟨ret_b3 HV.out.symm, HX3.out.2.2.2⟩
      | exact ⟨ret_b3 HV.out.symm, HX2.out.2.2.2⟩
      | exact ⟨ret_b3 HV.out.symm, HX1.out.2.2.2⟩
end Go.Proofs.Ytlmefnifhbcbcaa.PAll
end
