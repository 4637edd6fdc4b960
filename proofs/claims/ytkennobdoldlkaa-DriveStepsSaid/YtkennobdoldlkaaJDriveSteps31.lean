/- Joined texts of the claim DriveSteps (part 31): contracts of functions and plain laws. -/
import Derived.LoopTactic
import Derived.Maps.OwnSet
import Derived.Maps.Views
import Derived.StringKeys
import Derived.Test.YtkennobdoldlkaaJDriveSteps1
import Derived.Test.YtkennobdoldlkaaJDriveSteps15
import Derived.Test.YtkennobdoldlkaaJDriveSteps30
import Derived.BigQuiet
import Derived.Deep.QuietTactic
set_option linter.unusedVariables false
set_option linter.unusedSimpArgs false
section
namespace Go.Proofs.Ytkennobdoldlkaa.PAll
open Go.RowKit Go.WideMaps Go.Maps Go.Proofs.YtkennobdoldlkaaW.PrintWords Go.Proofs.Ytkennobdoldlkaa
def badPut (x : S74) : Bool := !(decide (1 ≤ x.f0.size) && decide (x.f0.size ≤ 16)) || decide (32 < x.f1.size) || (x.f2 && !(x.f1.toList == []))
def hasKey (p : List S74) (s : ByteArray) : Bool := p.any (fun y => y.f0.toList == s.toList)
def fitsGo : List S74 → List S74 → Int
  | [], _ => 0
  | x :: r, done => if badPut x || hasKey done x.f0 then 1 else fitsGo r (done ++ [x])
def fitsV (p : List S74) : Int := if 8 < p.length then 4 else fitsGo p []
def rows_Fits.f (l0 : List S74) : Option Int := some (fitsV l0)
def keyLit (s : ByteArray) : Lit := .string s.toList
def hadD (p : List S74) : DataW Nat := p.foldl (fun D x => D.put (keyLit x.f0) (.lit (.bool true))) (.map [])
theorem hadD_snoc (p : List S74) (x : S74) : hadD (p ++ [x]) = (hadD p).put (keyLit x.f0) (.lit (.bool true)) := by simp [hadD]
theorem hadD_at (s : ByteArray) : ∀ (p : List S74) (D : DataW Nat), IsMap D → (p.foldl (fun D x => D.put (keyLit x.f0) (.lit (.bool true))) D).atKey (keyLit s) (.lit (.bool false)) = if hasKey p s then .lit (.bool true) else D.atKey (keyLit s) (.lit (.bool false))
  | [], D, h => by simp [hasKey]
  | x :: r, D, h => by
    rw [List.foldl_cons, hadD_at s r _ (by obtain ⟨es, rfl⟩ := h; exact ⟨_, rfl⟩)]
    by_cases hr : hasKey r s = true
    · rw [if_pos hr, if_pos (by unfold hasKey at hr ⊢; rw [List.any_cons, hr, Bool.or_true])]
    · rw [if_neg hr]
      by_cases hx : x.f0.toList = s.toList
      · rw [if_pos (by unfold hasKey; rw [List.any_cons, beq_iff_eq.2 hx, Bool.true_or]), show keyLit s = keyLit x.f0 by unfold keyLit; rw [hx], atKey_put_same h (show WideAt.IsKeyLit (keyLit x.f0) from trivial)]
      · rw [if_neg (by unfold hasKey at hr ⊢; rw [List.any_cons, beq_eq_false_iff_ne.2 hx, Bool.false_or]; exact hr), atKey_put_other (by unfold keyLit; intro e; exact hx (Lit.string.inj e).symm)]
theorem zeroB (w : World) : (zeroValue 4).run Try.prog w = .ok (.bool false) w := by kernel_rfl
theorem ownsMap_below {H : Type} {P : Program} {k : TypeId} {R : Value → Option (DataW H × List MemPlace)} {w w' : World} {b n q : Nat} {D : DataW H} (h : w.ownsMap P k R b n D) (hb : Below q w w') (hlt : b < q) : w'.ownsMap P k R b n D := by
  obtain ⟨es, clock, h1, h2⟩ := h
  exact ⟨es, clock, (hb.block b hlt).trans h1, h2⟩
theorem plainBool_inv {P : Program} {e : TypeId} (he : P.underlying e = some .bool) {v : Value} {z : DataW Nat × List MemPlace} (h : plainElem P e v = some z) : ∃ x, v = .bool x ∧ z.1 = .lit (.bool x) := by
  unfold plainElem at h
  rw [he] at h
  cases v <;> simp at h
  exact ⟨_, rfl, by rw [← h]⟩
theorem had_lookup {p : List S74} {w : World} {b n : Nat} (h : w.ownsMap Try.prog 9 (plainElem Try.prog 4) b n (hadD p)) (s : ByteArray) (hs : s.size ≤ 16) :
    (Instr.lookup 89 (.map (some b)) (.string s) false).run Try.prog w = .ok (.bool (hasKey p s)) w := by
  have hkey : keyOf Try.prog 9 (.string s) = some (keyLit s) := by
    have := keyOf_string_mk (P := Try.prog) Try.underlying9 (s := s) (by unfold maxLen; omega)
    rw [this]; unfold keyLit; rw [ByteArray.toList_eq]
  obtain ⟨v, ps, h1, h2⟩ := h.lookup (string_keyed Try.underlying9) Try.underlying89 (zeroB w) (plainElem_bool Try.underlying4 false) hkey
  obtain ⟨x, rfl, hx⟩ := plainBool_inv Try.underlying4 h2
  rw [h1]
  have := hadD_at s p (.map []) ⟨[], rfl⟩
  dsimp only at hx
  rw [show hadD p = p.foldl (fun D x => D.put (keyLit x.f0) (.lit (.bool true))) (.map []) from rfl, this] at hx
  by_cases hk : hasKey p s = true
  · rw [if_pos hk] at hx; cases hx; rw [hk]
  · rw [if_neg hk] at hx; cases hx; rw [Bool.eq_false_iff.2 hk]
theorem fitsGo_step (l : List S74) (j : Nat) (hj : j < l.length) : fitsGo (l.drop j) (l.take j) = if badPut (l[j]!) || hasKey (l.take j) (l[j]!).f0 then 1 else fitsGo (l.drop (j + 1)) (l.take (j + 1)) := by
  rw [List.drop_eq_getElem_cons hj, fitsGo, List.take_succ_eq_append_getElem hj, getElem!_pos l j hj]
theorem cell_at {W : World} {b i : Nat} {cs : Array Value} {t : TypeId} {v : Value} (h : W.heap[b]? = some (.cells cs t)) (hv : cs[i]? = some v) : W.cell? ⟨b, i, none⟩ = some v := by
  simp [World.cell?, h, hv]
theorem key_ok (s : ByteArray) (hs : s.size ≤ 16) : keyOf Try.prog 9 (.string s) = some (keyLit s) := by
  have := keyOf_string_mk (P := Try.prog) Try.underlying9 (s := s) (by unfold maxLen; omega)
  rw [this]; unfold keyLit; rw [ByteArray.toList_eq]
theorem named_val (s : ByteArray) : rows_named.f s = some (decide (1 ≤ s.size) && decide (s.size ≤ 16)) := by
  unfold rows_named.f
  by_cases h : (s.size : Int) ≥ 1
  · rw [if_pos h, decide_eq_true (show 1 ≤ s.size by omega)]
    simp; omega
  · rw [if_neg h, decide_eq_false (show ¬ 1 ≤ s.size by omega)]
    rfl
set_option maxRecDepth 100000 in
set_option maxHeartbeats 4000000 in
theorem rows_Fits.calls (A0 : Option Addr) (c0 : Nat) (l0 : List S74) (r : Int) (w : World) (hr0 : Kd.C k74 w A0 l0.length l0) (hc0 : l0.length ≤ c0) (h : rows_Fits.f l0 = some r) :
    Calls Try.prog 43 #[.slice A0 l0.length c0] w fun e w' => e = .returned (.int .i64 r) ∧ Below w.heap.size w w' := by
  obtain rfl := Option.some.inj h
  have HR := qza.mk hr0
  clear h hr0
  have hmm := @run_makeMap Try.prog
  by_cases hbig : 8 < l0.length
  · have hv : fitsV l0 = 4 := by unfold fitsV; rw [if_pos hbig]
    rw [hv]
    have hbigz : (8 : Int) < (l0.length : Int) := by omega
    go_enter Try.func43, Try.ntmps43
    go_wp2
    go_ret
    exact ⟨rfl, Below.refl _ _⟩
  · have hv : fitsV l0 = fitsGo (l0.drop 0) (l0.take 0) := by unfold fitsV; rw [if_neg hbig, List.drop_zero, List.take_zero]
    rw [hv]
    have hbigz : ¬ (8 : Int) < (l0.length : Int) := by omega
    generalize hr : fitsGo (l0.drop 0) (l0.take 0) = r
    go_enter Try.func43, Try.ntmps43
    go_wp2
    go_loopw [12] (fun i wr => ∃ j : Nat, j ≤ l0.length ∧ i = .int .i64 j ∧ qza (fitsGo (l0.drop j) (l0.take j) = r) ∧ qza (wr.ownsMap Try.prog 9 (plainElem Try.prog 4) w.heap.size j (hadD (l0.take j))) ∧ qza (Below w.heap.size w wr)) (fun i _ => l0.length - (intOf i).toNat)
    case atStart => exact ⟨0, Nat.zero_le _, rfl, ⟨hr⟩, ⟨World.ownsMap_made _ _ _ _⟩, ⟨(Below.refl _ _).alloc (Nat.le_refl _) _⟩⟩
    case round =>
      obtain ⟨j, hj, rfl, HF, HM, HB⟩ := hrel
      by_cases hlt : j < l0.length
      · have hltz : (j : Int) < (l0.length : Int) := by omega
        obtain ⟨b, o, rfl, hrow⟩ := C_row (Kd.C_below HR.out HB.out) (by decide) (by omega)
        obtain ⟨cs, hcs, hK, hrg⟩ := hrow j hlt
        obtain rfl := flat74.openK _ _ _ hK
        have hc0_ : wr.cell? ⟨b, o + j * 3, none⟩ = some (.string (l0[j]!).f0) := hrg 0 _ rfl
        have hc1_ : wr.cell? ⟨b, o + j * 3 + 1, none⟩ = some (.string (l0[j]!).f1) := hrg 1 _ rfl
        have hc2_ : wr.cell? ⟨b, o + j * 3 + 2, none⟩ = some (.bool (l0[j]!).f2) := hrg 2 _ rfl
        have HS := qza.mk (fitsGo_step l0 j hlt)
        have HT : qza (hadD (l0.take (j + 1)) = (hadD (l0.take j)).put (keyLit (l0[j]!).f0) (.lit (.bool true))) := ⟨by rw [List.take_succ_eq_append_getElem hlt, hadD_snoc, getElem!_pos l0 j hlt]⟩
        clear hrow hrg hK hcs HR
        generalize l0[j]! = x at *
        have HN := qza.mk (named_val x.f0)
        obtain ⟨nb, hnb⟩ : ∃ nb, nb = (decide (1 ≤ x.f0.size) && decide (x.f0.size ≤ 16)) := ⟨_, rfl⟩
        rw [← hnb] at HN
        have HNB := qza.mk hnb
        clear hnb
        have hr1 (hb : (badPut x || hasKey (l0.take j) x.f0) = true) : r = 1 := by rw [← HF.out, HS.out, if_pos hb]
        cases nb with
        | false =>
          have hb : (badPut x || hasKey (l0.take j) x.f0) = true := by unfold badPut; rw [← HNB.out]; rfl
          obtain rfl := hr1 hb
          go_wp2_with (go_at_call 54; refine (rows_named.calls _ _ _ HN.out).mono ?_; rintro e w1 ⟨rfl, hd⟩; have hb1 := hd.below; clear hd)
          go_ret
          exact ⟨rfl, (HB.out.alloc HB.out.size _).trans (hb1.mono (by simp; have := HB.out.size; omega))⟩
        | true =>
          have h16 : x.f0.size ≤ 16 := by
            have := HNB.out.symm
            rw [Bool.and_eq_true] at this
            exact of_decide_eq_true this.2
          have hbad : badPut x = true ↔ ((32 : Int) < x.f1.size ∨ (x.f2 = true ∧ ¬ x.f1.toList = [])) := by
            have e32 : ((32 : Int) < (x.f1.size : Int)) = (32 < x.f1.size) := propext (by omega)
            unfold badPut
            rw [← HNB.out, e32, Bool.or_eq_true, Bool.or_eq_true, Bool.and_eq_true, decide_eq_true_eq]
            simp
          have HX := qza.mk ((MapKept.heap_alloc wr (.cells #[.string x.f0, .string x.f1, .bool x.f2] 74)).1)
          go_wp2_with (first
            | (go_at_call 54; refine (rows_named.calls _ _ _ HN.out).mono ?_; rintro e w1 ⟨rfl, hd⟩; have hb1 := hd.below; clear hd; have hM1 := ownsMap_below (World.ownsMap.alloc HM.out _) hb1 (by simp; have := HM.out.lt; omega); have hlk := had_lookup hM1 x.f0 h16; have hbx := (hb1.block wr.heap.size (by simp)).trans HX.out; have hx0 : w1.cell? ⟨wr.heap.size, 0, none⟩ = some (.string x.f0) := cell_at hbx rfl; have hx1 : w1.cell? ⟨wr.heap.size, 1, none⟩ = some (.string x.f1) := cell_at hbx rfl; have hx2 : w1.cell? ⟨wr.heap.size, 2, none⟩ = some (.bool x.f2) := cell_at hbx rfl; have HB1 := qza.mk ((HB.out.alloc HB.out.size (.cells #[.string x.f0, .string x.f1, .bool x.f2] 74)).trans (hb1.mono (by simp; have := HB.out.size; omega))); have HM1 := qza.mk hM1; clear hM1 hbx hb1)
            | (at_mapUpdate; refine wpList_mapUpdate_own _ rfl _ _ _ 89 rfl 9 4 (string_keyed Try.underlying9) Try.underlying89 _ w.heap.size j (hadD (l0.take j)) rfl HM1.out (by unfold maxLen; omega) _ _ (keyLit x.f0) rfl rfl (key_ok x.f0 h16) (.lit (.bool true)) [] (plainElem_bool Try.underlying4 true) ?_; intro w2 hM2 hg2; have HM2 := qza.mk hM2; have HG2 := qza.mk hg2; clear hM2 hg2))
          all_goals first
            | (have e : r = 1 := hr1 (by rw [Bool.or_eq_true, hbad]; clear HN HNB HX hlk hx0 hx1 hx2 HB1 HM1 HF HM HB HS HT hmm; grind)
               subst e
               go_ret
               exact ⟨rfl, HB1.out⟩)
            | (have e : ¬ (badPut x || hasKey (l0.take j) x.f0) = true := by rw [Bool.or_eq_true, hbad]; clear HN HNB HX hlk hx0 hx1 hx2 HB1 HM1 HM2 HG2 HF HM HB HS HT hmm; grind
               exact ⟨⟨j + 1, by omega, by simp, ⟨by rw [← HF.out, HS.out, if_neg e]⟩, ⟨by rw [HT.out]; exact HM2.out⟩, ⟨HB1.out.grown HG2.out HB1.out.size (fun k e => by cases e; exact Nat.le_refl _)⟩⟩, by simp [intOf]; omega⟩)
      · obtain rfl : j = l0.length := by omega
        go_wp2
        go_ret
        have hf := HF.out
        rw [List.drop_length] at hf
        have h0 : (0 : Int) = r := hf
        subst h0
        exact ⟨rfl, HB.out⟩
end Go.Proofs.Ytkennobdoldlkaa.PAll
end
section
namespace Go.Proofs.Ytkennobdoldlkaa.PAll
open Go.RowKit Go.Proofs.YtkennobdoldlkaaW.PrintWords Go.Proofs.Ytkennobdoldlkaa
def mayV (ta ti : Int) (st : List S53) : Bool := decide (1 ≤ st.length) && decide (st.length ≤ 12) && decide ((qz20 st).length ≤ 8) && decide (ta ≤ 4611686018427387903) && decide (ti ≤ 4611686018427387903) && !(st.any (fun s => !mayB s)) && !((qz20 st).any (fun g => fitsV (putsV st g) != 0))
theorem may1 (x : S53) (W : World) :
    Calls Try.prog 40 #[.agg (enc53 x).toArray] W fun e W' => e = .returned (.bool (!mayB x)) ∧ Below W.heap.size W W' := by
  unfold enc53
  have hx := heap_alloc_new W (.cells #[.int .u64 x.f0, .string x.f1, .string x.f2, .bool x.f3, .bool x.f4] 53)
  have HB0 := qza.mk ((Below.refl W.heap.size W).alloc (Nat.le_refl _) (.cells #[.int .u64 x.f0, .string x.f1, .string x.f2, .bool x.f3, .bool x.f4] 53))
  go_enter Try.func40, Try.ntmps40
  go_wp2_with (go_at_call 41; refine (may_step x _).mono ?_; rintro e w2 ⟨rfl, hb2⟩)
  go_ret
  exact ⟨rfl, HB0.out.trans (hb2.mono HB0.out.size)⟩
theorem may2 (B : Nat) (ta ti : Int) (A : Option Addr) (c : Nat) (st : List S53) (g : Int) (W : World) (hB : W.heap[B]? = some (.cells #[.int .u64 ta, .int .u64 ti, .slice A st.length c] 27 (0, 0))) (hr : Kd.C k53 W A st.length st) (hc : st.length ≤ c) (hl : st.length ≤ 3000000000000) :
    Calls Try.prog 42 #[.int .u64 g, .pointer (some ⟨B, 0, none⟩)] W fun e W' => e = .returned (.bool (fitsV (putsV st g) != 0)) ∧ Below W.heap.size W W' := by
  obtain ⟨h0, h1, h2⟩ := cells3 hB
  have HPU := qza.mk (puts_walk ta ti A c st g W hr hc hl)
  clear hr hB
  go_enter Try.func42, Try.ntmps42
  go_wp2_with (first
    | (go_at_call 21; refine (HPU.out).mono ?_; rintro e w2 ⟨v2, rfl, hR2, hb2⟩; obtain ⟨A2, c2, rfl, hc2, hC2⟩ := Sl.of_R hR2; have HB2 := qza.mk hb2; clear hR2 hb2 h0 h1 h2)
    | (go_at_call 43; refine (rows_Fits.calls A2 c2 (putsV st g) _ _ hC2 hc2 rfl).mono ?_; rintro e w3 ⟨rfl, hb3⟩))
  go_ret
  exact ⟨rfl, HB2.out.trans (hb3.mono HB2.out.size)⟩
set_option maxHeartbeats 1000000 in
set_option maxRecDepth 100000 in
theorem may_calls (ta ti : Int) (A : Option Addr) (c : Nat) (st : List S53) (w : World) (hr : Kd.C k53 w A st.length st) (hc : st.length ≤ c) (hl : st.length ≤ 3000000000000) (hg : ∀ x ∈ st, 0 ≤ x.f0 ∧ x.f0 ≤ 18446744073709551615) :
    Calls Try.prog 26 #[.agg #[.int .u64 ta, .int .u64 ti, .slice A st.length c]] w fun e w' => e = .returned (.bool (mayV ta ti st)) ∧ Below w.heap.size w w' := by
  have HR := qza.mk hr
  have HG := qza.mk hg
  have hx := heap_alloc_new w (.cells #[.int .u64 ta, .int .u64 ti, .slice A st.length c] 27)
  have HB0 := qza.mk ((Below.refl w.heap.size w).alloc (Nat.le_refl _) (.cells #[.int .u64 ta, .int .u64 ti, .slice A st.length c] 27))
  clear hr hg
  go_enter Try.func26, Try.ntmps26
  have HX := qza.mk hx
  clear hx
  go_upto_region 1 with (fail)
  change Code.wp _ _ _ _ (w.alloc (.cells #[.int .u64 ta, .int .u64 ti, .slice A st.length c] 27))
  generalize w.alloc (.cells #[.int .u64 ta, .int .u64 ti, .slice A st.length c] 27) = w1 at *
  obtain ⟨h0, h1, h2⟩ := cells3 HX.out
  have HPW := qza.mk (parts_walk ta ti A c st w1 (Kd.C_below HR.out HB0.out) hc (by omega) HG.out)
  go_upto_region 2 with (go_at_call 17; refine (HPW.out).mono ?_; rintro e w2 ⟨v2, rfl, hR2, hb2⟩; obtain ⟨A2, c2, rfl, hc2, hC2⟩ := Sl.of_R hR2; have HC2 := qza.mk hC2; have HB2 := qza.mk hb2; clear hR2 hb2 hC2)
  have HX2 := qza.mk (qz16 HB2.out HX.out)
  have HB3 := qza.mk (HB0.out.trans (HB2.out.mono HB0.out.size))
  clear h0 h1 h2
  obtain ⟨h0, h1, h2⟩ := cells3 HX2.out
  have HPL := qza.mk HC2.out.2.1
  go_cut [32] from 8 to 32 (fun v32 wx => v32 = .bool (!(decide (1 ≤ st.length) && decide (st.length ≤ 12) && decide ((qz20 st).length ≤ 8) && decide (ta ≤ 4611686018427387903) && decide (ti ≤ 4611686018427387903))) ∧ ∃ n, wx = w2.drewN n)
  case first =>
    have hpl := HPL.out
    by_cases h3 : (st.length : Int) < 1
    · go_wp2
      go_meet
      exact ⟨congrArg Value.bool (by rw [decide_eq_false (show ¬ 1 ≤ st.length by omega)]; rfl), 0, rfl⟩
    · by_cases h4 : (12 : Int) < (st.length : Int)
      · go_wp2
        go_meet
        exact ⟨congrArg Value.bool (by simp; omega), 0, rfl⟩
      · by_cases h5 : (8 : Int) < ((qz20 st).length : Int)
        · go_wp2
          go_meet
          exact ⟨congrArg Value.bool (by simp; omega), 0, rfl⟩
        · by_cases h6 : (4611686018427387903 : Int) < max ta ti
          · have HK6 : qza ((4611686018427387903 : Int) < ta ∨ (4611686018427387903 : Int) < ti) := ⟨by omega⟩
            go_wp2
            go_meet
            exact ⟨congrArg Value.bool (by have hk6 := HK6.out; simp; omega), 0, rfl⟩
          · go_wp2
            go_meet
            exact ⟨congrArg Value.bool (by rw [decide_eq_true (show 1 ≤ st.length by omega), decide_eq_true (show st.length ≤ 12 by omega), decide_eq_true (show (qz20 st).length ≤ 8 by omega), decide_eq_true (show ta ≤ 4611686018427387903 by omega), decide_eq_true (show ti ≤ 4611686018427387903 by omega)]; rfl), 0, rfl⟩
  case rest =>
    clear h0 h1 h2
    obtain ⟨rfl, n2, rfl⟩ := hcut
    have HX3 := qza.mk (qz3 HX2.out n2)
    have HB4 := qza.mk (qz5 HB3.out n2)
    have HC3 := qza.mk (Kd.C_below HC2.out (qz5 (Below.refl _ _) n2))
    generalize World.drewN w2 n2 = w3 at *
    obtain ⟨h0, h1, h2⟩ := cells3 HX3.out
    have hmv : mayV ta ti st = ((decide (1 ≤ st.length) && decide (st.length ≤ 12) && decide ((qz20 st).length ≤ 8) && decide (ta ≤ 4611686018427387903) && decide (ti ≤ 4611686018427387903)) && !(st.any (fun s => !mayB s)) && !((qz20 st).any (fun g => fitsV (putsV st g) != 0))) := rfl
    have HMV := qza.mk hmv
    clear hmv
    generalize (decide (1 ≤ st.length) && decide (st.length ≤ 12) && decide ((qz20 st).length ≤ 8) && decide (ta ≤ 4611686018427387903) && decide (ti ≤ 4611686018427387903)) = bb at *
    cases bb with
    | false =>
      go_wp2
      go_ret
      rw [HMV.out]
      exact ⟨rfl, HB4.out⟩
    | true =>
      have HCS := qza.mk (ContainsFuncStep k53 rfl (fun s => !mayB s) 40 #[] (enters_of Try.func40 (by kernel_rfl) rfl) (.slice A st.length c) st w3 ⟨A, c, rfl, hc, Kd.C_below HR.out HB4.out⟩ (fun W x cs hb _ hK => by
        obtain rfl := flat53.openK _ _ _ hK
        rw [Array.append_empty]
        exact may1 x W))
      generalize st.any (fun s => !mayB s) = b1 at *
      cases b1 with
      | true =>
        go_wp2_with (go_at_call 44; refine (HCS.out).mono ?_; rintro e w5 ⟨rfl, hb5⟩; have HB5 := qza.mk hb5; clear hb5 h0 h1 h2)
        go_ret
        rw [HMV.out]
        exact ⟨rfl, HB4.out.trans (HB5.out.mono HB4.out.size)⟩
      | false =>
        have HCU := qza.mk (fun (W : World) (h : Below w3.heap.size w3 W) => ContainsFuncu64 (Kd.int .u64) rfl (fun g => fitsV (putsV st g) != 0) 42 #[.pointer (some ⟨w.heap.size, 0, none⟩)] (enters_of Try.func42 (by kernel_rfl) rfl) (.slice A2 (qz20 st).length c2) (qz20 st) W ⟨A2, c2, rfl, hc2, Kd.C_below HC3.out h⟩ (fun W2 x cs hb _ hK => by
          obtain rfl : cs = [.int .u64 x] := hK
          exact may2 w.heap.size ta ti A c st x W2 (qz16 (h.trans (hb.mono h.size)) HX3.out) (Kd.C_below HR.out (HB4.out.trans ((h.trans (hb.mono h.size)).mono HB4.out.size))) hc hl))
        generalize (qz20 st).any (fun g => fitsV (putsV st g) != 0) = b2 at *
        go_wp2_with (first
          | (go_at_call 44; refine (HCS.out).mono ?_; rintro e w5 ⟨rfl, hb5⟩; have HB5 := qza.mk hb5; clear hb5 h0 h1 h2)
          | (go_at_call 45; refine (HCU.out _ HB5.out).mono ?_; rintro e w6 ⟨rfl, hb6⟩; have HB6 := qza.mk hb6; clear hb6))
        go_ret
        rw [HMV.out]
        exact ⟨rfl, (HB4.out.trans (HB5.out.mono HB4.out.size)).trans (HB6.out.mono (HB4.out.trans (HB5.out.mono HB4.out.size)).size)⟩
end Go.Proofs.Ytkennobdoldlkaa.PAll
end
