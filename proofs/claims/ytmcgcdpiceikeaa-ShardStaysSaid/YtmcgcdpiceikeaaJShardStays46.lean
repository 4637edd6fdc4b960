/- Joined texts of the claim ShardStays (part 46): contracts of functions and plain laws. -/
import Derived.Test.YtmcgcdpiceikeaaJShardStays13
import Derived.Test.YtmcgcdpiceikeaaJShardStays21
import Derived.Test.YtmcgcdpiceikeaaJShardStays45
set_option linter.unusedVariables false
set_option linter.unusedSimpArgs false
section
namespace Go.Proofs.Ytmcgcdpiceikeaa.PAll
open Go.RowKit Go.Proofs.YtmcgcdpiceikeaaW.PrintWords Go.Proofs.YtmcgcdpiceikeaaW.PrintLast Go.Proofs.YtmcgcdpiceikeaaW.PrintMore
attribute [local go_sem] qz60 qz61 max_two min_two qz49 qz50 qz62 qz63
def ferruleref13_with.l0 : Nat → List ByteArray → ByteArray → Int → Option (List ByteArray)
  | 0, _, _, _ => none
  | k + 1, x0, x1, x5 => if x5 < (x0.length : Int) then (if 0 ≤ x5 then (if (rdOf ByteArray.empty x0 x5).toList = x1.toList then (some x0) else (ferruleref13_with.l0 k x0 x1 (wrap64 (x5 + 1)))) else (none)) else ((some (([] : List ByteArray) : List ByteArray)).bind fun y302 => (if y302.length + x0.length < 8796093022208 then ((some (y302 ++ x0 : List ByteArray)).bind fun y305 => (if y305.length < 8796093022208 then (some (y305 ++ [x1])) else (none))) else (none)))
def ferruleref13_with.f (k : Nat) (l0 : List ByteArray) (a1 : ByteArray) : Option (List ByteArray) := ferruleref13_with.l0 k l0 a1 0
set_option maxHeartbeats 8000000 in
set_option maxRecDepth 100000 in
theorem ferruleref13_with.calls (k : Nat) (P0_ : Nat → Prop) (A0 : Option Addr) (c0 : Nat) (l0 : List ByteArray) (a1 : ByteArray) (r : List ByteArray) (w : World) (hs0 : Kd.V Kd.string 9 w w.heap.size (fun k_ => P0_ k_) (.slice A0 l0.length c0) l0) (h : ferruleref13_with.f k l0 a1 = some r) :
    Calls Try.prog 72 #[.slice A0 l0.length c0, .string a1] w fun e w' => ∃ v0_ : Value, e = .returned (v0_) ∧ Kd.V Kd.string 9 w' w.heap.size (fun k_ => (P0_ k_ ∨ w.heap.size ≤ k_)) v0_ r ∧ Below w.heap.size w w' := by
  have HO0 := qza.mk (show Kd.V Kd.string 9 w w.heap.size (fun k_ => (P0_ k_ ∨ w.heap.size ≤ k_)) (.slice A0 l0.length c0) l0 from Kd.V_mono hs0 (fun k_ hk => .inl hk))
  have HB := qza.mk (Below.refl w.heap.size w)
  have H : (ferruleref13_with.l0 k l0 a1 0) = some r := h
  clear h
  have H' := qza.mk H
  clear H
  go_enter Try.func72, Try.ntmps72
  go_wp2
  go_loopg [5] k (fun kq v5 w' => ∃ (x5_1 : Int), v5 = .int .i64 x5_1 ∧ qza (ferruleref13_with.l0 kq l0 a1 x5_1 = some r) ∧ qza (kq ≤ k) ∧ qza (Kd.V Kd.string 9 w' w.heap.size (fun k_ => (P0_ k_ ∨ w.heap.size ≤ k_)) (.slice A0 l0.length c0) l0) ∧ qza (Below w.heap.size w w'))
  case atStart => exact ⟨(0), (by first | rfl | (simp; done) | (simp [*]; done)), H', ⟨Nat.le_refl _⟩, ⟨by (with_reducible repeat (first | apply Kd.V_alloc | apply Kd.V_drewN | apply Kd.V_drew)); exact HO0.out⟩, ⟨by repeat (first | (with_reducible first | exact HB.out | apply qz2 | apply qz0 | apply qz3) | exact HB.out)⟩⟩
  case round =>
    clear H'
    try clear p2
    obtain ⟨x5_1, rfl, HA, HK1, HO_0, HB⟩ := hrel
    cases gk with
    | zero => exact absurd HA.out (by simp [ferruleref13_with.l0])
    | succ k1 =>
      have H := HA.out
      clear HA
      simp only [ferruleref13_with.l0] at H
      by_cases c3 : x5_1 < (l0.length : Int)
      · rw [if_pos c3] at H
        have c3b0 : decide (x5_1 < (l0.length : Int)) = true := decide_eq_true c3
        clear c3
        by_cases c4 : 0 ≤ x5_1
        · rw [if_pos c4] at H
          have c4b0 : decide (0 ≤ x5_1) = true := decide_eq_true c4
          clear c4
          by_cases c5 : (rdOf ByteArray.empty l0 x5_1).toList = a1.toList
          · rw [if_pos c5] at H
            have c5b0 : ((rdOf ByteArray.empty l0 x5_1).toList == a1.toList) = true := beq_iff_eq.mpr c5
            have c5b1 : ((rdOf ByteArray.empty l0 x5_1).toList != a1.toList) = false := bne_eq_false_iff_eq.mpr c5
            clear c5
            obtain rfl := Option.some.inj H
            have p301 : 0 ≤ (x5_1 : Int) := of_decide_eq_true (by first | (with_reducible assumption) | assumption)
            have q301 : x5_1 < (l0.length : Int) := of_decide_eq_true (by first | (with_reducible assumption) | assumption)
            obtain ⟨ad301, e301, hx301_0⟩ := Kd.at_string (Kd.V_reads' HO_0.out).2.2 x5_1 p301 q301
            cases e301
            replace p301 := eq_true p301
            replace q301 := eq_true q301
            go_wp2
            go_ret
            exact ⟨_, by first | rfl | (simp [qz19, qz20] <;> rfl) | (simp [*, qz19, qz20] <;> rfl), by (with_reducible repeat (first | apply Kd.V_alloc | apply Kd.V_drewN | apply Kd.V_drew)); exact HO_0.out, by repeat (first | (with_reducible first | exact HB.out | apply qz2 | apply qz0 | apply qz3) | exact HB.out)⟩
          · rw [if_neg c5] at H
            have c5b0 : ((rdOf ByteArray.empty l0 x5_1).toList == a1.toList) = false := beq_eq_false_iff_ne.mpr c5
            have c5b1 : ((rdOf ByteArray.empty l0 x5_1).toList != a1.toList) = true := bne_iff_ne.mpr c5
            have H' := qza.mk H
            clear H
            have p301 : 0 ≤ (x5_1 : Int) := of_decide_eq_true (by first | (with_reducible assumption) | assumption)
            have q301 : x5_1 < (l0.length : Int) := of_decide_eq_true (by first | (with_reducible assumption) | assumption)
            obtain ⟨ad301, e301, hx301_0⟩ := Kd.at_string (Kd.V_reads' HO_0.out).2.2 x5_1 p301 q301
            cases e301
            replace p301 := eq_true p301
            replace q301 := eq_true q301
            go_wp2
            go_roundg k1
            case measure => have := HK1.out; omega
            case rel => exact ⟨(wrap64 (x5_1 + 1)), (by first | rfl | (simp; done) | (simp [*]; done)), H', ⟨by have := HK1.out; omega⟩, ⟨by (with_reducible repeat (first | apply Kd.V_alloc | apply Kd.V_drewN | apply Kd.V_drew)); exact HO_0.out⟩, ⟨by repeat (first | (with_reducible first | exact HB.out | apply qz2 | apply qz0 | apply qz3) | exact HB.out)⟩⟩
        · rw [if_neg c4] at H
          exact absurd H (by simp)
      · rw [if_neg c3] at H
        have c3b0 : decide (x5_1 < (l0.length : Int)) = false := decide_eq_false c3
        clear c3
        obtain ⟨y302, hy302⟩ : ∃ y_ : List ByteArray, y_ = (([] : List ByteArray)) := ⟨_, rfl⟩
        replace H : (if y302.length + l0.length < 8796093022208 then ((some (y302 ++ l0 : List ByteArray)).bind fun y305 => (if y305.length < 8796093022208 then (some (y305 ++ [a1])) else (none))) else (none)) = some r := by first | (rw [hy302]; with_reducible exact H) | (have H2_ := (Option.bind_some _ _).symm.trans H; rw [hy302]; with_reducible exact H2_) | (have H2_ := (Option.bind_some _ _).symm.trans H; with_reducible exact H2_) | with_reducible exact H | (rw [hy302]; exact H) | exact H
        have Ny302 := qza.mk hy302
        clear hy302
        by_cases c6 : y302.length + l0.length < 8796093022208
        · rw [if_pos c6] at H
          have LMc6 := qza.mk c6
          clear c6
          obtain ⟨y305, hy305⟩ : ∃ y_ : List ByteArray, y_ = (y302 ++ l0) := ⟨_, rfl⟩
          replace H : (if y305.length < 8796093022208 then (some (y305 ++ [a1])) else (none)) = some r := by first | (rw [hy305]; with_reducible exact H) | (have H2_ := (Option.bind_some _ _).symm.trans H; rw [hy305]; with_reducible exact H2_) | (have H2_ := (Option.bind_some _ _).symm.trans H; with_reducible exact H2_) | with_reducible exact H | (rw [hy305]; exact H) | exact H
          have Ny305 := qza.mk hy305
          clear hy305
          by_cases c7 : y305.length < 8796093022208
          · rw [if_pos c7] at H
            have LMc7 := qza.mk c7
            clear c7
            obtain ⟨y308, hy308⟩ : ∃ y_ : List ByteArray, y_ = (y305 ++ [a1]) := ⟨_, rfl⟩
            replace H : (some y308) = some r := by first | (rw [hy308]; with_reducible exact H) | (have H2_ := (Option.bind_some _ _).symm.trans H; rw [hy308]; with_reducible exact H2_) | (have H2_ := (Option.bind_some _ _).symm.trans H; with_reducible exact H2_) | with_reducible exact H | (rw [hy308]; exact H) | exact H
            have Ny308 := qza.mk hy308
            clear hy308
            obtain rfl := Option.some.inj H
            go_wp2_with (first | ((with_reducible refine qz22 (N := 19) rfl ?_); refine Kd.R_lit Kd.string _ 9 ?hg (N := 19) ?hd (xs := ([] : List ByteArray)) (inner := []) (ok := fun _ => True) (okp := fun _ => True) ?hr ?hp (fun _ hk => hk) trivial (Below.refl _ _) (Nat.le_refl _) (by simp) ?_; (case hd => rfl); (case hg => rfl); (case hr => first | (go_simp; done) | (go_simp; rfl)); (case hp => exact (Reps.none _ _)); intro v303 w8 ho9 hb hg_ hnew_; clear hg_ hnew_; (first | rw [← Ny302.out] at ho9 | (simp only [Int.reduceToNat] at ho9; rw [← Ny302.out] at ho9)); have n0_ := qza.mk (Kd.V_elder' (by (with_reducible repeat (first | apply Kd.V_alloc | apply Kd.V_drewN | apply Kd.V_drew)); exact HO_0.out) (Kd.R_base ho9) hb); have n1_ := qza.mk (Kd.R_lower (Kd.R_newM (M := fun k_ => (w.heap.size ≤ k_)) ho9 (qz9 (by repeat (first | (with_reducible first | exact HB.out | apply qz2 | apply qz0 | apply qz3) | exact HB.out))) (fun k_ h_ => h_)) (qz9 (by repeat (first | (with_reducible first | exact HB.out | apply qz2 | apply qz0 | apply qz3) | exact HB.out)))); have n2_ := qza.mk (qz21 (by repeat (first | (with_reducible first | exact HB.out | apply qz2 | apply qz0 | apply qz3) | exact HB.out)) hb); clear HO_0; clear HB; have HO_0 := n0_; have HO304 := n1_; have HB := n2_; clear n0_ n1_ n2_; clear hb ho9) | ((with_reducible refine qz66 (b := .append) (xs := #[.tmp 19, .tmp 20]) rfl ?_); at_builtin; refine Kd.R_append_rows Kd.string (w0 := w) w.heap.size rfl (.tmp 19) (.tmp 20) 105 9 (.string ⟨#[]⟩) 16 rfl Try.underlying105 info9 rfl (by decide) (by omega) v303 y302 l0 _ _ _ (fun k_ => (w.heap.size ≤ k_)) (fun _ => False) rfl rfl ?aO ?aR (fun _ _ h => h) (fun _ h => h.elim) ?aF ?aB ?aS ?aL ?_; (case aR => repeat (first | exact (Kd.V_reads' HO_0.out).2.2 | (with_reducible refine Kd.C_alloc ?_ _) | (with_reducible refine Kd.C_drewN ?_ _) | (with_reducible refine Kd.C_drew ?_))); (case aB => exact (by repeat (first | (with_reducible first | exact HB.out | apply qz2 | apply qz0 | apply qz3) | exact HB.out))); (case aF => exact (fun k_ hk => (Nat.le_trans (qz9 (by repeat (first | (with_reducible first | exact HB.out | apply qz2 | apply qz0 | apply qz3) | exact HB.out))) hk))); (case aO => exact (by (with_reducible repeat (first | apply Kd.R_alloc | apply Kd.R_drewN | apply Kd.R_drew)); exact Kd.R_mono HO304.out (fun _ hk => hk.1))); (case aS => exact (qz9 (by repeat (first | (with_reducible first | exact HB.out | apply qz2 | apply qz0 | apply qz3) | exact HB.out)))); (case aL => have := LMc6.out; omega); intro v306 w10 ho hb hg hat; rw [← Ny305.out] at ho; have n0_ := qza.mk (Kd.V_afterv (ok := (fun k_ => (P0_ k_ ∨ w.heap.size ≤ k_))) (by (with_reducible repeat (first | apply Kd.V_alloc | apply Kd.V_drewN | apply Kd.V_drew)); exact HO_0.out) hg hat); have n1_ := qza.mk (hb); have n2_ := qza.mk (ho); clear HO_0; clear HB; clear HO304; have HO_0 := n0_; have HB := n1_; have HO307 := n2_; clear n0_ n1_ n2_; clear ho hb hg hat) | ((with_reducible refine qz66 (b := .append) (xs := #[.tmp 21, .tmp 23]) rfl ?_); at_builtin; refine Kd.R_append Kd.string (w0 := w) w.heap.size rfl (.tmp 21) (.tmp 23) 105 9 (.string ⟨#[]⟩) 16 rfl Try.underlying105 info9 rfl (by decide) (by omega) v306 y305 a1 [.string a1] (fun k_ => (w.heap.size ≤ k_)) (fun _ => False) rfl rfl ?aP (fun _ hk => hk.elim) ?aF ?aO ?aB ?aS ?aL ?_; (case aP => exact rfl); (case aB => exact (by repeat (first | (with_reducible first | exact HB.out | apply qz2 | apply qz0 | apply qz3) | exact HB.out))); (case aF => exact (fun k_ hk => (Nat.le_trans (qz9 (by repeat (first | (with_reducible first | exact HB.out | apply qz2 | apply qz0 | apply qz3) | exact HB.out))) hk))); (case aO => exact (by (with_reducible repeat (first | apply Kd.R_alloc | apply Kd.R_drewN | apply Kd.R_drew)); exact HO307.out)); (case aS => exact (qz9 (by repeat (first | (with_reducible first | exact HB.out | apply qz2 | apply qz0 | apply qz3) | exact HB.out)))); (case aL => have := LMc7.out; omega); intro v309 w11 ho hb hg hat; rw [← Ny308.out] at ho; have n0_ := qza.mk (Kd.V_afterv (ok := (fun k_ => (P0_ k_ ∨ w.heap.size ≤ k_))) (by (with_reducible repeat (first | apply Kd.V_alloc | apply Kd.V_drewN | apply Kd.V_drew)); exact HO_0.out) hg hat); have n1_ := qza.mk (hb); have n2_ := qza.mk (ho); clear HO_0; clear HB; clear HO307; have HO_0 := n0_; have HB := n1_; have HO310 := n2_; clear n0_ n1_ n2_; clear ho hb hg hat))
            go_ret
            exact ⟨_, by first | rfl | (simp [qz19, qz20] <;> rfl) | (simp [*, qz19, qz20] <;> rfl), Kd.V_mono (Kd.R_V (by (with_reducible repeat (first | apply Kd.R_alloc | apply Kd.R_drewN | apply Kd.R_drew)); exact HO310.out)) (fun k_ hk => by first | exact ⟨(.inr (hk.1)), hk.2⟩ | exact (.inr (hk))), by repeat (first | (with_reducible first | exact HB.out | apply qz2 | apply qz0 | apply qz3) | exact HB.out)⟩
          · rw [if_neg c7] at H
            exact absurd H (by simp)
        · rw [if_neg c6] at H
          exact absurd H (by simp)
end Go.Proofs.Ytmcgcdpiceikeaa.PAll
end
section
namespace Go.Proofs.Ytmcgcdpiceikeaa.PAll
open Go.RowKit Go.Proofs.YtmcgcdpiceikeaaW.PrintWords Go.Proofs.YtmcgcdpiceikeaaW.PrintMore Go.Proofs.Ytmcgcdpiceikeaa
instance : Inhabited ByteArray := ⟨ByteArray.empty⟩
theorem rdKey (l : List ByteArray) (j : Nat) (hj : j < l.length) : rdOf ByteArray.empty l (j : Int) = l[j]'hj := by
  simp [rdOf, List.getD_eq_getElem?_getD, List.getElem?_eq_getElem hj]
theorem with_l0 (l : List ByteArray) (key : ByteArray) (hl : l.length < 8796093022208) : ∀ (d j : Nat), d = l.length - j → j ≤ l.length → Ev (fun q => ferruleref13_with.l0 q l key (j : Int)) (if key ∈ l.drop j then l else l ++ [key]) := by
  intro d
  induction d with
  | zero =>
    intro j hd hj
    obtain rfl : j = l.length := by omega
    rw [List.drop_length, if_neg (by simp)]
    refine Ev.step (f := fun _ => some (l ++ [key])) (fun q => ?_) (Ev.now _)
    simp only [ferruleref13_with.l0]
    rw [if_neg (by omega)]
    simp [hl]
  | succ d ih =>
    intro j hd hj
    have hlt : j < l.length := by omega
    rw [List.drop_eq_getElem_cons hlt]
    refine Ev.step (fun q => by simp only [ferruleref13_with.l0]; rw [if_pos (by omega), if_pos (by omega), rdKey l j hlt, wrapInc j (by omega)]) ?_
    by_cases c : (l[j]'hlt).toList = key.toList
    · have e := toList_inj c
      rw [if_pos (by rw [e]; exact List.mem_cons_self)]
      exact Ev.congr (fun _ => if_pos c) (Ev.now l)
    · refine Ev.congr (fun _ => if_neg c) ?_
      have hne : ¬ key = l[j]'hlt := fun h => c (by rw [← h])
      have := ih (j + 1) (by omega) (by omega)
      by_cases h2 : key ∈ l.drop (j + 1)
      · rw [if_pos (List.mem_cons_of_mem _ h2)]
        rwa [if_pos h2] at this
      · rw [if_neg (fun h => by rcases List.mem_cons.1 h with h | h; exact hne h; exact h2 h)]
        rwa [if_neg h2] at this
theorem with_ev (l : List ByteArray) (key : ByteArray) (hl : l.length < 8796093022208) : Ev (fun q => ferruleref13_with.f q l key) (withV l key) := by
  have := with_l0 l key hl l.length 0 (by omega) (by omega)
  rw [List.drop_zero] at this
  exact this
def KL (w : World) (v : Value) (l : List ByteArray) : Prop := Kd.V Kd.string 9 w 0 (fun _ => True) v l
theorem with13_calls (A : Option Addr) (c : Nat) (l : List ByteArray) (k : ByteArray) (w : World) (h : KL w (.slice A l.length c) l) (hl : l.length < 8796093022208) :
    Calls Try.prog 72 #[.slice A l.length c, .string k] w fun e w' => ∃ v, e = .returned v ∧ KL w' v (withV l k) ∧ Below w.heap.size w w' := by
  obtain ⟨q, hq⟩ := (with_ev l k hl).rounds
  refine (ferruleref13_with.calls q (fun _ => True) A c l k (withV l k) w h hq).mono ?_
  rintro e w' ⟨v, rfl, h1, h2⟩
  exact ⟨v, rfl, Kd.V_mono h1 (fun _ _ => trivial), h2⟩
theorem withV_le (l : List ByteArray) (k : ByteArray) : (withV l k).length ≤ l.length + 1 := by
  unfold withV
  split <;> simp
set_option maxHeartbeats 2000000 in
set_option maxRecDepth 100000 in
theorem keys13_calls (A0 : Option Addr) (c0 : Nat) (v1 : Value) (A2 : Option Addr) (c2 : Nat) (v3 : Value) (rs : List S50) (os : List S48) (ver : Int) (w : World) (hr0 : Kd.C k50 w A0 rs.length rs) (hr2 : Kd.C k48 w A2 os.length os) (hc : rs.length + qz59 os < 8796093022208) :
    Calls Try.prog 33 #[.agg #[.slice A0 rs.length c0, v1, .slice A2 os.length c2, v3, .int .u64 ver], .slice none 0 0] w fun e w' => e = .returned (.int .i64 (keysV rs os [] : Nat)) ∧ Below w.heap.size w w' := by
  have hn2 : os.length ≤ 9223372036854775807 := hr2.2.1
  have hxa := heap_alloc_new w (.cells #[.slice A0 rs.length c0, v1, .slice A2 os.length c2, v3, .int .u64 ver] 28)
  have HB0 := qza.mk ((Below.refl w.heap.size w).alloc (Nat.le_refl _) (.cells #[.slice A0 rs.length c0, v1, .slice A2 os.length c2, v3, .int .u64 ver] 28))
  have HR0 := qza.mk hr0
  have HR2 := qza.mk hr2
  clear hr0 hr2
  go_enter Try.func33, Try.ntmps33
  go_wp2
  generalize w.alloc (.cells #[.slice A0 rs.length c0, v1, .slice A2 os.length c2, v3, .int .u64 ver] 28) = W1 at *
  have HXA := qza.mk (fun (W : World) (h : Below W1.heap.size W1 W) => stay h hxa (Array.getElem?_eq_some_iff.1 hxa).1)
  clear hxa
  go_loopg [5, 6] rs.length (fun gg s5 s6 wv => ∃ kk : Nat, kk ≤ rs.length ∧ rs.length - kk ≤ gg ∧ s6 = .int .i64 kk ∧ qza (KL wv s5 (rowKeys (rs.take kk))) ∧ qza ((rowKeys (rs.take kk)).length ≤ kk) ∧ qza (Below W1.heap.size W1 wv))
  case atStart => exact ⟨0, Nat.zero_le _, by omega, rfl, ⟨Kd.V_nil _ _ _ _ _⟩, ⟨Nat.le_refl _⟩, ⟨Below.refl _ _⟩⟩
  case round =>
    obtain ⟨kk, hkk, hgk, rfl, HK, HL, HBv⟩ := hrel
    obtain ⟨ha0, ha1, ha2, ha3, ha4⟩ := qz4 (HXA.out _ HBv.out)
    have HBw := qza.mk (HB0.out.trans (HBv.out.mono HB0.out.size))
    obtain ⟨KA, kc, rfl, hkA⟩ := HK.out
    by_cases hlt : kk < rs.length
    · have hltz : (kk : Int) < (rs.length : Int) := by omega
      have hkz : (0 : Int) ≤ (kk : Int) := by omega
      obtain ⟨xb, xo, rfl, hx0, hx1, hx2⟩ := rowRow (Kd.C_below HR0.out HBw.out) kk hlt
      have HW := qza.mk (with13_calls KA kc (rowKeys (rs.take kk)) (rs[kk]!).f0 wr HK.out (by have := HL.out; omega))
      have HL2 := qza.mk (withV_le (rowKeys (rs.take kk)) (rs[kk]!).f0)
      rw [← rowKeys_step rs kk hlt] at HW HL2
      clear hkA
      generalize (rs[kk]!).f0 = key at *
      go_wp2_with (go_at_call 72; refine HW.out.mono ?_; rintro e w3 ⟨v3_, rfl, hv3, hb3⟩; have HV3 := qza.mk hv3; have HB3 := qza.mk hb3; clear hv3 hb3)
      go_roundg (rs.length - (kk + 1))
      case measure => omega
      case rel => exact ⟨kk + 1, by omega, by omega, by go_num, HV3, ⟨by have := HL.out; have := HL2.out; omega⟩, ⟨HBv.out.trans (HB3.out.mono HBv.out.size)⟩⟩
    · have hltz : ¬ (kk : Int) < (rs.length : Int) := by omega
      obtain rfl : kk = rs.length := by omega
      have HK0 := HK
      have HL0 := HL
      rw [List.take_length] at HK0 HL0
      clear HK HL hkA hgk hkk
      generalize hac : rowKeys rs = ac at *
      go_wp2
      go_loopg [5, 7] os.length (fun gg s5 s7 wv => ∃ kk : Nat, kk ≤ os.length ∧ os.length - kk ≤ gg ∧ s7 = .int .i64 kk ∧ qza (KL wv s5 (qz42 ac (os.take kk))) ∧ qza ((qz42 ac (os.take kk)).length ≤ rs.length + qz59 (os.take kk)) ∧ qza (Below W1.heap.size W1 wv))
      case atStart => exact ⟨0, Nat.zero_le _, by omega, rfl, HK0, ⟨by rw [List.take_zero]; exact Nat.le_trans HL0.out (Nat.le_add_right _ _)⟩, HBv⟩
      case round =>
        clear ha0 ha1 ha2 ha3 ha4 HBw HK0 HBv
        obtain ⟨kk, hkk, hgk, rfl, HK, HL, HBv⟩ := hrel
        obtain ⟨ha0, ha1, ha2, ha3, ha4⟩ := qz4 (HXA.out _ HBv.out)
        have HBw := qza.mk (HB0.out.trans (HBv.out.mono HB0.out.size))
        obtain ⟨KA, kc, rfl, hkA⟩ := HK.out
        clear hkA
        by_cases hlt2 : kk < os.length
        · have hltz2 : (kk : Int) < (os.length : Int) := by omega
          have hkz : (0 : Int) ≤ (kk : Int) := by omega
          have HCL := qza.mk (openCount_le os kk hlt2)
          have HST := qza.mk (openKeys_step ac os kk hlt2)
          have HCS := qza.mk (openCount_step os kk hlt2)
          obtain ⟨xb, xo, rfl, P, pc, hp1, hp2, hx0, hx1, hx2, hx3, hx4⟩ := qz53 (Kd.C_below HR2.out HBw.out) kk hlt2
          have HX := qza.mk (And.intro hx0 (And.intro hx1 (And.intro hx2 (And.intro hx3 hx4))))
          have HP := qza.mk hp2
          clear hx0 hx1 hx2 hx3 hx4 hp1 hp2
          generalize os[kk]! = x at *
          obtain ⟨⟨xa, xi⟩, xf, xw, xp⟩ := x
          dsimp only at HX HP HST HCL HCS
          have hxp : xp.length ≤ 9223372036854775807 := HP.out.2.1
          go_wp2
          go_loopg [5, 8] xp.length (fun gg s5 s8 wv => ∃ jj : Nat, jj ≤ xp.length ∧ xp.length - jj ≤ gg ∧ (xf = true ∨ jj = 0) ∧ s8 = .int .i64 jj ∧ qza (KL wv s5 (qz52 (qz42 ac (os.take kk)) (xp.take jj))) ∧ qza ((qz52 (qz42 ac (os.take kk)) (xp.take jj)).length ≤ rs.length + qz59 (os.take kk) + jj) ∧ qza (Below wr.heap.size wr wv))
          case atStart => exact ⟨0, Nat.zero_le _, by omega, Or.inr rfl, rfl, HK, HL, ⟨Below.refl _ _⟩⟩
          case round =>
            clear ha0 ha1 ha2 ha3 ha4
            have HWR := HBv
            clear HBv HK
            obtain ⟨jj, hjj, hgj, hfj, rfl, HK, HL3, HBu⟩ := hrel
            have HBz := qza.mk (HWR.out.trans (HBu.out.mono HWR.out.size))
            obtain ⟨ha0, ha1, ha2, ha3, ha4⟩ := qz4 (HXA.out _ HBz.out)
            obtain ⟨z0, z1, z2, z3, z4⟩ := HX.out
            have hx2 := (HBu.out.cell (World.block_lt_of_cell? _ _ z2)).trans z2
            have hx4 := (HBu.out.cell (World.block_lt_of_cell? _ _ z4)).trans z4
            clear z0 z1 z2 z3 z4
            obtain ⟨KB, kd, rfl, hkB⟩ := HK.out
            clear hkB
            have HBo := qza.mk (HB0.out.trans (HBz.out.mono HB0.out.size))
            cases xf with
            | true =>
              by_cases hlt3 : jj < xp.length
              · have hltz3 : (jj : Int) < (xp.length : Int) := by omega
                have hjz : (0 : Int) ≤ (jj : Int) := by omega
                obtain ⟨yb, yo, rfl, hy0, hy1, hy2⟩ := putCells (Kd.C_below HP.out HBu.out) jj hlt3
                have HAS := qza.mk (addPuts_step (qz42 ac (os.take kk)) xp jj hlt3)
                have HW := qza.mk (with13_calls KB kd (qz52 (qz42 ac (os.take kk)) (xp.take jj)) (xp[jj]!).f0 wr HK.out (by have := HL3.out; have := HCL.out; omega))
                have HL4 := qza.mk (withV_le (qz52 (qz42 ac (os.take kk)) (xp.take jj)) (xp[jj]!).f0)
                generalize xp[jj]! = p at *
                obtain ⟨pk, pv, pd⟩ := p
                dsimp only at *
                cases pd with
                | true =>
                  go_wp2
                  go_roundg (xp.length - (jj + 1))
                  case measure => omega
                  case rel => exact ⟨jj + 1, by omega, by omega, Or.inl (by trivial), by go_num, ⟨by rw [HAS.out]; exact HK.out⟩, ⟨by rw [HAS.out]; have := HL3.out; exact Nat.le_trans this (by omega)⟩, HBu⟩
                | false =>
                  go_wp2_with (go_at_call 72; refine HW.out.mono ?_; rintro e w3 ⟨v3_, rfl, hv3, hb3⟩; have HV3 := qza.mk hv3; have HB3 := qza.mk hb3; clear hv3 hb3)
                  go_roundg (xp.length - (jj + 1))
                  case measure => omega
                  case rel => exact ⟨jj + 1, by omega, by omega, Or.inl (by trivial), by go_num, ⟨by rw [HAS.out]; exact HV3.out⟩, ⟨by rw [HAS.out]; have := HL3.out; have := HL4.out; exact Nat.le_trans this (by omega)⟩, ⟨HBu.out.trans (HB3.out.mono HBu.out.size)⟩⟩
              · have hltz3 : ¬ (jj : Int) < (xp.length : Int) := by omega
                obtain rfl : jj = xp.length := by omega
                go_wp2
                go_roundg (os.length - (kk + 1))
                case measure => omega
                case rel => exact ⟨kk + 1, by omega, by omega, by go_num, ⟨by rw [HST.out]; have := HK.out; rw [List.take_length] at this; exact this⟩, ⟨by rw [HST.out, HCS.out]; have := HL3.out; rw [List.take_length] at this; exact Nat.le_trans this (by omega)⟩, HBz⟩
            | false =>
              obtain rfl : jj = 0 := by rcases hfj with h | h; cases h; exact h
              by_cases hz : xp.length = 0
              · have hltz3 : ¬ (0 : Int) < (xp.length : Int) := by omega
                go_wp2
                go_roundg (os.length - (kk + 1))
                case measure => omega
                case rel => exact ⟨kk + 1, by omega, by omega, by go_num, ⟨by rw [HST.out]; exact HK.out⟩, ⟨by rw [HST.out, HCS.out]; have := HL.out; exact Nat.le_trans this (by omega)⟩, HBz⟩
              · have hltz3 : (0 : Int) < (xp.length : Int) := by omega
                go_wp2
                go_roundg (os.length - (kk + 1))
                case measure => omega
                case rel => exact ⟨kk + 1, by omega, by omega, by go_num, ⟨by rw [HST.out]; exact HK.out⟩, ⟨by rw [HST.out, HCS.out]; have := HL.out; exact Nat.le_trans this (by omega)⟩, HBz⟩
        · have hltz2 : ¬ (kk : Int) < (os.length : Int) := by omega
          obtain rfl : kk = os.length := by omega
          go_wp2
          go_loopg [5, 9] 0 (fun gg s5 s9 wv => s5 = .slice KA (qz42 ac os).length kc ∧ s9 = .int .i64 0 ∧ wv = wr)
          case atStart => exact ⟨rfl, rfl, rfl⟩
          case round =>
            obtain ⟨rfl, rfl, rfl⟩ := hrel
            go_wp2
            go_ret
            refine ⟨?_, HBw.out⟩
            rw [← hac]
            rfl
end Go.Proofs.Ytmcgcdpiceikeaa.PAll
end
