/- Joined texts of the claim GroupBack (part 48): contracts of functions and plain laws. -/
import Derived.Outline
import Derived.Test.YtlmefnifhbcbcaaJGroupBack46
import Derived.Test.YtlmefnifhbcbcaaJGroupBack47
section
/- pack.TakeNums, as the printed texts call it. -/
namespace Go.Proofs.Ytlmefnifhbcbcaa.PAll
open Go.RowKit Go.Proofs.YtlmefnifhbcbcaaW.PrintWords Go.Proofs.YtlmefnifhbcbcaaW.PrintMore Go.Proofs.Ytlmefnifhbcbcaa
set_option linter.unusedVariables false
def takeN : Nat → ByteArray → List Int → List Int × ByteArray × Int
  | 0, s, out => (out, s, 0)
  | d + 1, s, out => if (takeV s).2.2 = 0 then takeN d (takeV s).2.1 (out ++ [(takeV s).1]) else ([], ⟨#[]⟩, (takeV s).2.2)
def takeNV (s : ByteArray) (most : Int) : List Int × ByteArray × Int :=
  if (takeV s).2.2 = 0 then (if (takeV s).1 > most then ([], ⟨#[]⟩, 4) else takeN (takeV s).1.toNat (takeV s).2.1 []) else ([], ⟨#[]⟩, (takeV s).2.2)
def pack_TakeNums.f (a0 : ByteArray) (a1 : Int) : Option (List Int × ByteArray × Int) := if 0 ≤ a1 ∧ a1 ≤ 1000 then some (takeNV a0 a1) else none
theorem tn_calls (s : ByteArray) (w : World) : Calls Try.prog 92 #[.string s] w fun e w' => e = .returned (.tuple #[.int .u64 (takeV s).1, .string (takeV s).2.1, .int .i64 (takeV s).2.2]) ∧ Below w.heap.size w w' := by
  obtain ⟨k, hk⟩ := (TakeNum_ev s).rounds
  exact pack_TakeNum.calls k s _ _ _ w hk
set_option maxHeartbeats 2000000 in
set_option maxRecDepth 100000 in
theorem several_calls (n : Nat) (hn : n ≤ 1000) (s : ByteArray) (w : World) : Calls Try.prog 93 #[.string s, .int .u64 n, .func (.func 92) #[] #[]] w fun e w' => ∃ v0_ : Value, e = .returned (.tuple #[v0_, .string (takeN n s []).2.1, .int .i64 (takeN n s []).2.2]) ∧ Kd.R (Kd.int .u64) 22 w' w.heap.size (fun _ => True) v0_ (takeN n s []).1 ∧ Below w.heap.size w w' := by
  obtain ⟨r, hr⟩ : ∃ r, r = takeN n s [] := ⟨_, rfl⟩
  rw [← hr]
  have HR := Aside0.mk hr
  clear hr
  go_enter Try.func93, Try.ntmps93
  go_wp2
  go_loopg [0, 9, 14] n (fun gg s0 s9 s14 wr => ∃ (kk : Nat) (s' : ByteArray) (out : List Int), kk ≤ n ∧ n - kk ≤ gg ∧ s14 = .int .u64 kk ∧ s0 = .string s' ∧ Aside0 (Below w.heap.size w wr) ∧ Aside0 (Kd.R (Kd.int .u64) 22 wr w.heap.size (fun _ => True) s9 out) ∧ Aside0 (out.length = kk) ∧ Aside0 (takeN (n - kk) s' out = r))
  case atStart => exact ⟨0, s, [], Nat.zero_le _, by omega, rfl, rfl, ⟨Below.refl _ _⟩, ⟨Kd.R_nil _ _ _ _ _⟩, ⟨rfl⟩, ⟨HR.out.symm⟩⟩
  case round =>
    obtain ⟨kk, s', out, hkk, hg, rfl, rfl, BW, RO, OL, TE⟩ := hrel
    by_cases hlt : kk < n
    · have hltz : (kk : Int) < (n : Int) := by omega
      have hst : takeN (n - kk) s' out = if (takeV s').2.2 = 0 then takeN (n - (kk + 1)) (takeV s').2.1 (out ++ [(takeV s').1]) else ([], ⟨#[]⟩, (takeV s').2.2) := by
        rw [show n - kk = (n - (kk + 1)) + 1 by omega]
        rfl
      have HST : Aside0 ((if (takeV s').2.2 = 0 then takeN (n - (kk + 1)) (takeV s').2.1 (out ++ [(takeV s').1]) else ([], ⟨#[]⟩, (takeV s').2.2)) = r) := ⟨hst.symm.trans TE.out⟩
      have HT := Aside0.mk (fun W => tn_calls s' W)
      clear hst TE
      generalize (takeV s').1 = x at *
      generalize (takeV s').2.1 = s2 at *
      generalize (takeV s').2.2 = e3 at *
      by_cases c : e3 = 0
      · subst c
        go_wp2_with (first
          | (go_at_call 92; refine (HT.out _).mono ?_; rintro e w4 ⟨rfl, hb4⟩; have HB4 := Aside0.mk hb4; have RO4 := Aside0.mk (Kd.R_below RO.out hb4); clear hb4)
          | ((with_reducible refine gate_builtin (b := .append) (xs := #[.tmp 26, .tmp 28]) rfl ?_); at_builtin; refine Kd.R_append (Kd.int .u64) (w0 := w) w.heap.size rfl (.tmp 26) (.tmp 28) 26 22 (.int .u64 0) 8 rfl Try.underlying26 info22 rfl (by decide) (by omega) _ out x [.int .u64 x] (fun _ => True) (fun _ => False) rfl rfl rfl (fun _ hk => hk.elim) (fun _ _ => trivial) RO4.out (BW.out.trans (HB4.out.mono BW.out.size)) (Nat.le_trans BW.out.size HB4.out.size) (by have := OL.out; omega) ?_; intro v7 w7 ho7 hb7 hg7 hn7; have HO7 := Aside0.mk ho7; have HB7 := Aside0.mk hb7; clear ho7 hb7 hg7 hn7))
        go_roundg (n - (kk + 1))
        case measure => omega
        case rel => exact ⟨kk + 1, s2, out ++ [x], by omega, by omega, by first | go_num | (congr 1; exact w64 _ (by omega) (by omega)), rfl, HB7, HO7, ⟨by rw [List.length_append, OL.out]; rfl⟩, ⟨by have := HST.out; rwa [if_pos trivial] at this⟩⟩
      · have HE : Aside0 (r = ([], ⟨#[]⟩, e3)) := ⟨by have := HST.out; rw [if_neg c] at this; exact this.symm⟩
        go_wp2_with (go_at_call 92; refine (HT.out _).mono ?_; rintro e w4 ⟨rfl, hb4⟩; have HB4 := Aside0.mk hb4; clear hb4)
        go_ret3
        have he := HE.out
        subst he
        exact ⟨_, rfl, Kd.R_nil _ _ _ _ _, BW.out.trans (HB4.out.mono BW.out.size)⟩
    · have hltz : ¬ (kk : Int) < (n : Int) := by omega
      obtain rfl : kk = n := by omega
      have HE : Aside0 (r = (out, s', 0)) := ⟨by have := TE.out; rw [Nat.sub_self] at this; exact this.symm⟩
      go_wp2
      go_ret3
      have he := HE.out
      subst he
      exact ⟨_, rfl, RO.out, BW.out⟩
set_option maxHeartbeats 2000000 in
set_option maxRecDepth 100000 in
theorem pack_TakeNums.calls (a0 : ByteArray) (a1 : Int) (r1 : List Int) (r2 : ByteArray) (r3 : Int) (w : World) (h : pack_TakeNums.f a0 a1 = some (r1, r2, r3)) :
    Calls Try.prog 75 #[.string a0, .int .i64 a1] w fun e w' => ∃ v0_ : Value, e = .returned (.tuple #[v0_, .string r2, .int .i64 r3]) ∧ Kd.R (Kd.int .u64) 22 w' w.heap.size (fun _ => True) v0_ r1 ∧ Below w.heap.size w w' := by
  unfold pack_TakeNums.f at h
  split at h
  case isFalse => cases h
  rename_i hg
  obtain ⟨hm0, hm1⟩ := hg
  have h := Option.some.inj h
  unfold takeNV at h
  obtain ⟨hr0, hr1, _⟩ := takeV_range a0
  have HT := Aside0.mk (fun W => tn_calls a0 W)
  have hw : IntKind.u64.wrap a1 = a1 := w64 _ hm0 (by omega)
  generalize (takeV a0).1 = x at *
  generalize (takeV a0).2.1 = s2 at *
  generalize (takeV a0).2.2 = e3 at *
  by_cases c : e3 = 0
  · subst c
    rw [if_pos rfl] at h
    by_cases c2 : x > a1
    · rw [if_pos c2] at h
      obtain ⟨rfl, h2⟩ := Prod.mk.inj h
      obtain ⟨rfl, rfl⟩ := Prod.mk.inj h2
      clear h h2
      go_enter Try.func75, Try.ntmps75
      go_wp2_with (go_at_call 92; refine (HT.out _).mono ?_; rintro e w4 ⟨rfl, hb4⟩; have HB4 := Aside0.mk hb4; clear hb4)
      go_ret3
      exact ⟨_, rfl, Kd.R_nil _ _ _ _ _, HB4.out⟩
    · rw [if_neg c2] at h
      obtain ⟨n, hnx⟩ := Int.eq_ofNat_of_zero_le hr0
      have HX := Aside0.mk hnx
      have hn : n ≤ 1000 := by omega
      rw [hnx, show ((n : Int)).toNat = n from Int.toNat_natCast n] at h
      have HS : Aside0 (∀ W : World, Calls Try.prog 93 #[.string s2, .int .u64 n, .func (.func 92) #[] #[]] W fun e w' => ∃ v0_ : Value, e = .returned (.tuple #[v0_, .string r2, .int .i64 r3]) ∧ Kd.R (Kd.int .u64) 22 w' W.heap.size (fun _ => True) v0_ r1 ∧ Below W.heap.size W w') := ⟨fun W => by have h5 := several_calls n hn s2 W; rw [h] at h5; exact h5⟩
      rw [← hnx] at HS
      clear h hnx hn
      go_enter Try.func75, Try.ntmps75
      go_wp2_with (first
        | (go_at_call 92; refine (HT.out _).mono ?_; rintro e w4 ⟨rfl, hb4⟩; have HB4 := Aside0.mk hb4; clear hb4)
        | (go_at_call 93; refine (HS.out _).mono ?_; rintro e w5 ⟨v5, rfl, ho5, hb5⟩; have HB5 := Aside0.mk hb5; have HO5 := Aside0.mk ho5; clear hb5 ho5))
      go_ret3
      exact ⟨_, rfl, Kd.R_lower HO5.out HB4.out.size, HB4.out.trans (HB5.out.mono HB4.out.size)⟩
  · rw [if_neg c] at h
    obtain ⟨rfl, h2⟩ := Prod.mk.inj h
    obtain ⟨rfl, rfl⟩ := Prod.mk.inj h2
    clear h h2
    go_enter Try.func75, Try.ntmps75
    go_wp2_with (go_at_call 92; refine (HT.out _).mono ?_; rintro e w4 ⟨rfl, hb4⟩; have HB4 := Aside0.mk hb4; clear hb4)
    go_ret3
    exact ⟨_, rfl, Kd.R_nil _ _ _ _ _, HB4.out⟩
end Go.Proofs.Ytlmefnifhbcbcaa.PAll
end
