/- Joined texts of the claim ShardRight (part 15): contracts of functions and plain laws. -/
import Derived.Test.YtmcgcdpiceikeaaJShardRight14
import Derived.Maps.Keyed
import Derived.Maps.OwnSet
import Derived.Maps.Views
import Derived.Test.YtmcgcdpiceikeaaJShardRight1
section
/- rows.Fits, walked. -/
namespace Go.Proofs.Ytmcgcdpiceikeaa.PAll
open Go.RowKit Go.WideMaps Go.Maps Go.Proofs.YtmcgcdpiceikeaaW.PrintWords Go.Proofs.Ytmcgcdpiceikeaa
set_option linter.unusedVariables false
theorem fitsGo_step (l : List S54) (j : Nat) (hj : j < l.length) : fitsGo (l.drop j) (l.take j) = if badPut (l[j]!) || hasKey (l.take j) (l[j]!).f0 then 1 else fitsGo (l.drop (j + 1)) (l.take (j + 1)) := by
  rw [List.drop_eq_getElem_cons hj, fitsGo, List.take_succ_eq_append_getElem hj, getElem!_pos l j hj]
theorem cell_at {W : World} {b i : Nat} {cs : Array Value} {t : TypeId} {v : Value} (h : W.heap[b]? = some (.cells cs t)) (hv : cs[i]? = some v) : W.cell? ⟨b, i, none⟩ = some v := by
  simp [World.cell?, h, hv]
theorem key_ok (s : ByteArray) (hs : s.size ≤ 16) : keyOf Try.prog 9 (.string s) = some (keyLit s) := by
  have := keyOf_string_mk (P := Try.prog) Try.underlying9 (s := s) (by unfold maxLen; omega)
  rw [this]; unfold keyLit; rw [ByteArray.toList_eq]
theorem named_val (s : ByteArray) : rows_named.f s = some (decide (1 ≤ s.size) && decide (s.size ≤ 16)) := by
  unfold rows_named.f
  by_cases h : (s.size : Int) ≥ 1
  · rw [if_pos h, decide_eq_true (show 1 ≤ s.size by omega)]
    simp; omega
  · rw [if_neg h, decide_eq_false (show ¬ 1 ≤ s.size by omega)]
    rfl
set_option maxRecDepth 100000 in
set_option maxHeartbeats 4000000 in
theorem rows_Fits.calls (A0 : Option Addr) (c0 : Nat) (l0 : List S54) (r : Int) (w : World) (hr0 : Kd.C k54 w A0 l0.length l0) (hc0 : l0.length ≤ c0) (h : rows_Fits.f l0 = some r) :
    Calls Try.prog 42 #[.slice A0 l0.length c0] w fun e w' => e = .returned (.int .i64 r) ∧ Below w.heap.size w w' := by
  obtain rfl := Option.some.inj h
  have HR := Aside0.mk hr0
  clear h hr0
  have hmm := @run_makeMap Try.prog
  by_cases hbig : 8 < l0.length
  · have hv : fitsV l0 = 4 := by unfold fitsV; rw [if_pos hbig]
    rw [hv]
    have hbigz : (8 : Int) < (l0.length : Int) := by omega
    go_enter Try.func42, Try.ntmps42
    go_wp2
    go_ret
    exact ⟨rfl, Below.refl _ _⟩
  · have hv : fitsV l0 = fitsGo (l0.drop 0) (l0.take 0) := by unfold fitsV; rw [if_neg hbig, List.drop_zero, List.take_zero]
    rw [hv]
    have hbigz : ¬ (8 : Int) < (l0.length : Int) := by omega
    generalize hr : fitsGo (l0.drop 0) (l0.take 0) = r
    go_enter Try.func42, Try.ntmps42
    go_wp2
    go_loopw [12] (fun i wr => ∃ j : Nat, j ≤ l0.length ∧ i = .int .i64 j ∧ Aside0 (fitsGo (l0.drop j) (l0.take j) = r) ∧ Aside0 (wr.ownsMap Try.prog 9 (plainElem Try.prog 4) w.heap.size j (hadD (l0.take j))) ∧ Aside0 (Below w.heap.size w wr)) (fun i _ => l0.length - (intOf i).toNat)
    case atStart => exact ⟨0, Nat.zero_le _, rfl, ⟨hr⟩, ⟨World.ownsMap_made _ _ _ _⟩, ⟨(Below.refl _ _).alloc (Nat.le_refl _) _⟩⟩
    case round =>
      obtain ⟨j, hj, rfl, HF, HM, HB⟩ := hrel
      by_cases hlt : j < l0.length
      · have hltz : (j : Int) < (l0.length : Int) := by omega
        obtain ⟨b, o, rfl, hrow⟩ := C_row (Kd.C_below HR.out HB.out) (by decide) (by omega)
        obtain ⟨cs, hcs, hK, hrg⟩ := hrow j hlt
        obtain rfl := flat54.openK _ _ _ hK
        have hc0_ : wr.cell? ⟨b, o + j * 3, none⟩ = some (.string (l0[j]!).f0) := hrg 0 _ rfl
        have hc1_ : wr.cell? ⟨b, o + j * 3 + 1, none⟩ = some (.string (l0[j]!).f1) := hrg 1 _ rfl
        have hc2_ : wr.cell? ⟨b, o + j * 3 + 2, none⟩ = some (.bool (l0[j]!).f2) := hrg 2 _ rfl
        have HS := Aside0.mk (fitsGo_step l0 j hlt)
        have HT : Aside0 (hadD (l0.take (j + 1)) = (hadD (l0.take j)).put (keyLit (l0[j]!).f0) (.lit (.bool true))) := ⟨by rw [List.take_succ_eq_append_getElem hlt, hadD_snoc, getElem!_pos l0 j hlt]⟩
        clear hrow hrg hK hcs HR
        generalize l0[j]! = x at *
        have HN := Aside0.mk (named_val x.f0)
        obtain ⟨nb, hnb⟩ : ∃ nb, nb = (decide (1 ≤ x.f0.size) && decide (x.f0.size ≤ 16)) := ⟨_, rfl⟩
        rw [← hnb] at HN
        have HNB := Aside0.mk hnb
        clear hnb
        have hr1 (hb : (badPut x || hasKey (l0.take j) x.f0) = true) : r = 1 := by rw [← HF.out, HS.out, if_pos hb]
        cases nb with
        | false =>
          have hb : (badPut x || hasKey (l0.take j) x.f0) = true := by unfold badPut; rw [← HNB.out]; rfl
          obtain rfl := hr1 hb
          go_wp2_with (go_at_call 73; refine (rows_named.calls _ _ _ HN.out).mono ?_; rintro e w1 ⟨rfl, hd⟩; have hb1 := hd.below; clear hd)
          go_ret
          exact ⟨rfl, (HB.out.alloc HB.out.size _).trans (hb1.mono (by simp; have := HB.out.size; omega))⟩
        | true =>
          have h16 : x.f0.size ≤ 16 := by
            have := HNB.out.symm
            rw [Bool.and_eq_true] at this
            exact of_decide_eq_true this.2
          have hbad : badPut x = true ↔ ((32 : Int) < x.f1.size ∨ (x.f2 = true ∧ ¬ x.f1.toList = [])) := by
            have e32 : ((32 : Int) < (x.f1.size : Int)) = (32 < x.f1.size) := propext (by omega)
            unfold badPut
            rw [← HNB.out, e32, Bool.or_eq_true, Bool.or_eq_true, Bool.and_eq_true, decide_eq_true_eq]
            simp
          have HX := Aside0.mk ((MapKept.heap_alloc wr (.cells #[.string x.f0, .string x.f1, .bool x.f2] 54)).1)
          go_wp2_with (first
            | (go_at_call 73; refine (rows_named.calls _ _ _ HN.out).mono ?_; rintro e w1 ⟨rfl, hd⟩; have hb1 := hd.below; clear hd; have hM1 := ownsMap_below (World.ownsMap.alloc HM.out _) hb1 (by simp; have := HM.out.lt; omega); have hlk := had_lookup hM1 x.f0 h16; have hbx := (hb1.block wr.heap.size (by simp)).trans HX.out; have hx0 : w1.cell? ⟨wr.heap.size, 0, none⟩ = some (.string x.f0) := cell_at hbx rfl; have hx1 : w1.cell? ⟨wr.heap.size, 1, none⟩ = some (.string x.f1) := cell_at hbx rfl; have hx2 : w1.cell? ⟨wr.heap.size, 2, none⟩ = some (.bool x.f2) := cell_at hbx rfl; have HB1 := Aside0.mk ((HB.out.alloc HB.out.size (.cells #[.string x.f0, .string x.f1, .bool x.f2] 54)).trans (hb1.mono (by simp; have := HB.out.size; omega))); have HM1 := Aside0.mk hM1; clear hM1 hbx hb1)
            | (at_mapUpdate; refine wpList_mapUpdate_own _ rfl _ _ _ 114 rfl 9 4 (string_keyed Try.underlying9) Try.underlying114 _ w.heap.size j (hadD (l0.take j)) rfl HM1.out (by unfold maxLen; omega) _ _ (keyLit x.f0) rfl rfl (key_ok x.f0 h16) (.lit (.bool true)) [] (plainElem_bool Try.underlying4 true) ?_; intro w2 hM2 hg2; have HM2 := Aside0.mk hM2; have HG2 := Aside0.mk hg2; clear hM2 hg2))
          all_goals first
            | (have e : r = 1 := hr1 (by rw [Bool.or_eq_true, hbad]; clear HN HNB HX hlk hx0 hx1 hx2 HB1 HM1 HF HM HB HS HT hmm; grind)
               subst e
               go_ret
               exact ⟨rfl, HB1.out⟩)
            | (have e : ¬ (badPut x || hasKey (l0.take j) x.f0) = true := by rw [Bool.or_eq_true, hbad]; clear HN HNB HX hlk hx0 hx1 hx2 HB1 HM1 HM2 HG2 HF HM HB HS HT hmm; grind
               exact ⟨⟨j + 1, by omega, by simp, ⟨by rw [← HF.out, HS.out, if_neg e]⟩, ⟨by rw [HT.out]; exact HM2.out⟩, ⟨HB1.out.grown HG2.out HB1.out.size (fun k e => by cases e; exact Nat.le_refl _)⟩⟩, by simp [intOf]; omega⟩)
      · obtain rfl : j = l0.length := by omega
        go_wp2
        go_ret
        have hf := HF.out
        rw [List.drop_length] at hf
        have h0 : (0 : Int) = r := hf
        subst h0
        exact ⟨rfl, HB.out⟩
end Go.Proofs.Ytmcgcdpiceikeaa.PAll
end
section
/- A map of bools that the call has made: what it says of a key. -/
namespace Go.Proofs.Ytmcgcdpiceikeaa
open Go.RowKit Go.WideMaps Go.Maps Go.Proofs.YtmcgcdpiceikeaaW.PrintWords
set_option linter.unusedVariables false
theorem zeroBoolM (w : World) : (zeroValue 4).run Try.prog w = .ok (.bool false) w := by kernel_rfl
/-- Block b is a map of at most n entries that says S of the keys; no entry is false. -/
def BoolMap {κ : Type} (kl : κ → Lit) (kt : TypeId) (w : World) (b n : Nat) (S : κ → Bool) : Prop :=
  ∃ D : DataW Nat, w.ownsMap Try.prog kt (plainElem Try.prog 4) b n D ∧ ∀ x, D.atKey (kl x) (.lit (.bool false)) = .lit (.bool (S x))
section
variable {κ : Type} {kl : κ → Lit} {kt : TypeId} {w : World} {b n : Nat} {S : κ → Bool}
theorem BoolMap.lt (h : BoolMap kl kt w b n S) : b < w.heap.size := by
  obtain ⟨D, h1, _⟩ := h
  exact h1.lt
theorem BoolMap.below {q : Nat} {w' : World} (h : BoolMap kl kt w b n S) (hb : Below q w w') (hlt : b < q) : BoolMap kl kt w' b n S := by
  obtain ⟨D, ⟨es, clock, h1, h2⟩, h3⟩ := h
  exact ⟨D, ⟨es, clock, (hb.block b hlt).trans h1, h2⟩, h3⟩
theorem BoolMap.kept {w' : World} (h : BoolMap kl kt w b n S) (hb : Below w.heap.size w w') : BoolMap kl kt w' b n S := h.below hb h.lt
theorem BoolMap.grown {w' : World} {row : Option Nat} (h : BoolMap kl kt w b n S) (hb : w.grownBy w' row) (hne : some b ≠ row) : BoolMap kl kt w' b n S := by
  have hlt := h.lt
  obtain ⟨D, ⟨es, clock, h1, h2⟩, h3⟩ := h
  exact ⟨D, ⟨es, clock, (hb.block b hlt hne).trans h1, h2⟩, h3⟩
theorem boolElem_inv {P : Program} {e : TypeId} (he : P.underlying e = some .bool) {v : Value} {z : DataW Nat × List MemPlace} (h : plainElem P e v = some z) : ∃ x, v = .bool x ∧ z.1 = .lit (.bool x) := by
  unfold plainElem at h
  rw [he] at h
  cases v <;> simp at h
  exact ⟨_, rfl, by rw [← h]⟩
theorem BoolMap.lookup (h : BoolMap kl kt w b n S) (K : Keyed Try.prog kt) {mt : TypeId} (ht : Try.prog.underlying mt = some (.map kt 4)) {key : Value} {x : κ} (hkey : keyOf Try.prog kt key = some (kl x)) :
    (Instr.lookup mt (.map (some b)) key false).run Try.prog w = .ok (.bool (S x)) w := by
  obtain ⟨D, h1, h2⟩ := h
  obtain ⟨v, ps, h3, h4⟩ := h1.lookup K ht (zeroBoolM w) (plainElem_bool Try.underlying4 false) hkey
  obtain ⟨y, rfl, hy⟩ := boolElem_inv Try.underlying4 h4
  rw [h3]
  dsimp only at hy
  rw [h2 x] at hy
  cases hy
  rfl
theorem BoolMap.more {m : Nat} (h : BoolMap kl kt w b n S) (hm : n ≤ m) : BoolMap kl kt w b m S := by
  obtain ⟨D, ⟨es, clock, h1, h2⟩, h3⟩ := h
  exact ⟨D, ⟨es, clock, h1, h2.1, by have := h2.2.1; omega, h2.2.2⟩, h3⟩
theorem BoolMap.made {w' : World} (kl : κ → Lit) (kt : TypeId) (h : w'.ownsMap Try.prog kt (plainElem Try.prog 4) b n (.map [] : DataW Nat)) : BoolMap kl kt w' b n (fun _ => false) := ⟨.map [], h, fun _ => rfl⟩
end
section
variable {κ : Type} [DecidableEq κ] {kl : κ → Lit} {kt : TypeId} {b n : Nat} {S : κ → Bool}
theorem wpList_put_bool (w : World) {ops : Array Oper} {rest : List Oper} {o : Oper} {a : Act} {Q : Exit → Act → World → Prop} (hg : o.guard = none) (m x v : Operand) (mt : TypeId) (hop : o.op = Op.mapUpdate mt m x v)
    (K : Keyed Try.prog kt) (ht : Try.prog.underlying mt = some (.map kt 4)) (hinj : ∀ x y, kl x = kl y → x = y) (hlit : ∀ x, WideAt.IsKeyLit (kl x)) (hm : a.eval m = .map (some b)) (h : BoolMap kl kt w b n S) (hn : n < maxLen) (key : Value) (y : κ) (t : Bool) (hx : a.eval x = key) (hv : a.eval v = .bool t) (hkey : keyOf Try.prog kt key = some (kl y))
    (hK : ∀ w', BoolMap kl kt w' b (n + 1) (fun z => if z = y then t else S z) → w.grownBy w' (some b) → wpList Try.prog ops Q rest (a.put o.dst undef) w') : wpList Try.prog ops Q (o :: rest) a w := by
  obtain ⟨D, h1, h2⟩ := h
  refine wpList_mapUpdate_own w hg m x v mt hop kt 4 K ht _ b n D hm h1 hn key (.bool t) (kl y) hx hv hkey (.lit (.bool t)) [] (plainElem_bool Try.underlying4 t) (fun w' h3 h4 => hK w' ⟨_, h3, fun z => ?_⟩ h4)
  dsimp only
  by_cases e : z = y
  · subst e
    rw [if_pos rfl, atKey_put_same h1.isMap (hlit z)]
  · rw [if_neg e, atKey_put_other (fun e2 => e (hinj _ _ e2)), h2]
end
end Go.Proofs.Ytmcgcdpiceikeaa
end
section
/- A map[string]bool as a set of keys. -/
namespace Go.Proofs.Ytmcgcdpiceikeaa.PAll
open Go.RowKit Go.WideMaps Go.Maps Go.Proofs.YtmcgcdpiceikeaaW.PrintWords Go.Proofs.Ytmcgcdpiceikeaa
set_option linter.unusedVariables false
theorem toList_inj {x y : ByteArray} (h : x.toList = y.toList) : x = y := by
  rw [ByteArray.toList_eq, ByteArray.toList_eq] at h
  exact ByteArray.ext (Array.ext' h)
instance : DecidableEq ByteArray := fun x y => decidable_of_iff (x.toList = y.toList) ⟨toList_inj, fun h => by rw [h]⟩
instance memDec (s : ByteArray) (l : List ByteArray) : Decidable (s ∈ l) := decidable_of_iff (l.any (fun x => decide (x = s)) = true) (by simp)
theorem keyLit_inj (x y : ByteArray) (h : keyLit x = keyLit y) : x = y := by
  unfold keyLit at h
  exact toList_inj (Lit.string.inj h)
theorem keyLit_key (x : ByteArray) : WideAt.IsKeyLit (keyLit x) := trivial
theorem key_ok2 (s : ByteArray) (hs : s.size ≤ maxLen) : keyOf Try.prog 9 (.string s) = some (keyLit s) := by
  have := keyOf_string_mk (P := Try.prog) Try.underlying9 (s := s) hs
  rw [this]; unfold keyLit; rw [ByteArray.toList_eq]
def withV (l : List ByteArray) (k : ByteArray) : List ByteArray := if k ∈ l then l else l ++ [k]
def KeySet (w : World) (b n : Nat) (acc : List ByteArray) : Prop :=
  acc.Nodup ∧ ∃ D : DataW Nat, w.ownsMap Try.prog 9 (plainElem Try.prog 4) b n D ∧ (∀ s, D.atKey (keyLit s) (.lit (.bool false)) = .lit (.bool (decide (s ∈ acc)))) ∧ (∀ s, has D (keyLit s) = decide (s ∈ acc)) ∧ Maps.size D = acc.length
section
variable {w : World} {b n : Nat} {acc : List ByteArray}
theorem KeySet.set (h : KeySet w b n acc) : BoolMap keyLit 9 w b n (fun s => decide (s ∈ acc)) := by
  obtain ⟨_, D, h1, h2, _, _⟩ := h
  exact ⟨D, h1, h2⟩
theorem KeySet.lt (h : KeySet w b n acc) : b < w.heap.size := h.set.lt
theorem KeySet.below {q : Nat} {w' : World} (h : KeySet w b n acc) (hb : Below q w w') (hlt : b < q) : KeySet w' b n acc := by
  obtain ⟨h0, D, ⟨es, clock, h1, h2⟩, h3⟩ := h
  exact ⟨h0, D, ⟨es, clock, (hb.block b hlt).trans h1, h2⟩, h3⟩
theorem KeySet.kept {w' : World} (h : KeySet w b n acc) (hb : Below w.heap.size w w') : KeySet w' b n acc := h.below hb h.lt
theorem KeySet.grown {w' : World} {row : Option Nat} (h : KeySet w b n acc) (hb : w.grownBy w' row) (hne : some b ≠ row) : KeySet w' b n acc := by
  have hlt := h.lt
  obtain ⟨h0, D, ⟨es, clock, h1, h2⟩, h3⟩ := h
  exact ⟨h0, D, ⟨es, clock, (hb.block b hlt hne).trans h1, h2⟩, h3⟩
theorem KeySet.more {m : Nat} (h : KeySet w b n acc) (hm : n ≤ m) : KeySet w b m acc := by
  obtain ⟨h0, D, ⟨es, clock, h1, h2⟩, h3⟩ := h
  exact ⟨h0, D, ⟨es, clock, h1, h2.1, by have := h2.2.1; omega, h2.2.2⟩, h3⟩
theorem KeySet.made {w' : World} (h : w'.ownsMap Try.prog 9 (plainElem Try.prog 4) b n (.map [] : DataW Nat)) : KeySet w' b n [] := ⟨List.nodup_nil, .map [], h, fun _ => rfl, fun _ => rfl, rfl⟩
theorem KeySet.lookup (h : KeySet w b n acc) {mt : TypeId} (ht : Try.prog.underlying mt = some (.map 9 4)) (s : ByteArray) (hs : s.size ≤ maxLen) :
    (Instr.lookup mt (.map (some b)) (.string s) false).run Try.prog w = .ok (.bool (decide (s ∈ acc))) w := h.set.lookup (string_keyed Try.underlying9) ht (key_ok2 s hs)
end
theorem wpList_put_key (w : World) {b n : Nat} {acc : List ByteArray} {ops : Array Oper} {rest : List Oper} {o : Oper} {a : Act} {Q : Exit → Act → World → Prop} (hg : o.guard = none) (m x v : Operand) (mt : TypeId) (hop : o.op = Op.mapUpdate mt m x v)
    (ht : Try.prog.underlying mt = some (.map 9 4)) (hm : a.eval m = .map (some b)) (h : KeySet w b n acc) (hn : n < maxLen) (s : ByteArray) (hx : a.eval x = .string s) (hv : a.eval v = .bool true) (hs : s.size ≤ maxLen)
    (hK : ∀ w', KeySet w' b (n + 1) (withV acc s) → w.grownBy w' (some b) → wpList Try.prog ops Q rest (a.put o.dst undef) w') : wpList Try.prog ops Q (o :: rest) a w := by
  obtain ⟨h0, D, h1, h2, h3, h4⟩ := h
  have hT := h1.tidy (string_keyed Try.underlying9)
  refine wpList_mapUpdate_own w hg m x v mt hop 9 4 (string_keyed Try.underlying9) ht _ b n D hm h1 hn _ (.bool true) (keyLit s) hx hv (key_ok2 s hs) (.lit (.bool true)) [] (plainElem_bool Try.underlying4 true) (fun w' h5 h6 => hK w' ⟨?_, _, h5, fun z => ?_, fun z => ?_, ?_⟩ h6)
  · unfold withV
    by_cases c : s ∈ acc
    · rw [if_pos c]; exact h0
    · rw [if_neg c]
      exact List.nodup_append.2 ⟨h0, by simp, fun a ha b hb e => by
        rw [List.mem_singleton] at hb
        subst hb
        subst e
        exact c ha⟩
  · by_cases e : z = s
    · subst e
      rw [atKey_put_same h1.isMap (keyLit_key z)]
      have : z ∈ withV acc z := by unfold withV; by_cases c : z ∈ acc <;> simp [c]
      rw [decide_eq_true this]
    · rw [atKey_put_other (fun e2 => e (keyLit_inj _ _ e2)), h2]
      have : z ∈ withV acc s ↔ z ∈ acc := by unfold withV; by_cases c : s ∈ acc <;> simp [c, e]
      rw [decide_eq_decide.2 this]
  · by_cases e : z = s
    · subst e
      rw [has_put_same h1.isMap (keyLit_key z)]
      have : z ∈ withV acc z := by unfold withV; by_cases c : z ∈ acc <;> simp [c]
      rw [decide_eq_true this]
    · rw [has_put_other (fun e2 => e (keyLit_inj _ _ e2)), h3]
      have : z ∈ withV acc s ↔ z ∈ acc := by unfold withV; by_cases c : s ∈ acc <;> simp [c, e]
      rw [decide_eq_decide.2 this]
  · rw [size_put hT, h3, h4]
    unfold withV
    by_cases c : s ∈ acc <;> simp [c]
theorem wpList_del_key (w : World) {b n : Nat} {acc : List ByteArray} {ops : Array Oper} {rest : List Oper} {o : Oper} {a : Act} {Q : Exit → Act → World → Prop} (hg : o.guard = none) (m x : Operand) (mt : TypeId) (hop : o.op = Op.call { callee := Callee.builtin Builtin.delete, args := #[m, x], argTypes := #[mt, 9] })
    (ht : Try.prog.underlying mt = some (.map 9 4)) (hm : a.eval m = .map (some b)) (s : ByteArray) (h : KeySet w b n (acc ++ [s])) (hx : a.eval x = .string s) (hs : s.size ≤ maxLen)
    (hK : ∀ w', KeySet w' b n acc → w.grownBy w' (some b) → wpList Try.prog ops Q rest (a.put o.dst (.tuple #[])) w') : wpList Try.prog ops Q (o :: rest) a w := by
  obtain ⟨h0, D, h1, h2, h3, h4⟩ := h
  have hT := h1.tidy (string_keyed Try.underlying9)
  have hnot : s ∉ acc := by
    have := (List.nodup_append.1 h0).2.2
    intro hc
    exact this s hc s (by simp) rfl
  refine wpList_delete_own w hg m x mt 9 hop 4 (string_keyed Try.underlying9) ht _ b n D hm h1 _ (keyLit s) hx (key_ok2 s hs) (fun w' h5 h6 => hK w' ⟨(List.nodup_append.1 h0).1, _, h5, fun z => ?_, fun z => ?_, ?_⟩ h6.grown)
  · by_cases e : z = s
    · subst e
      rw [atKey_del_same, decide_eq_false hnot]
    · rw [atKey_del_other (fun e2 => e (keyLit_inj _ _ e2)), h2]
      simp [e]
  · by_cases e : z = s
    · subst e
      rw [has_del_same, decide_eq_false hnot]
    · rw [has_del_other (fun e2 => e (keyLit_inj _ _ e2)), h3]
      simp [e]
  · have := size_del (k := keyLit s) hT
    rw [h3, h4] at this
    simp at this
    omega
end Go.Proofs.Ytmcgcdpiceikeaa.PAll
end
