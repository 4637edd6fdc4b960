/- Joined texts of the claim DrivePlans (part 38): contracts of functions and plain laws. -/
import Derived.Test.YtkennobdoldlkaaJDrivePlans37
import Derived.Test.YtkennobdoldlkaaJDrivePlans15
section
/- A drive in a box: what is asked of it, what it hears. -/
namespace Go.Proofs.Ytkennobdoldlkaa.PAll
open Go.RowKit Go.Proofs.YtkennobdoldlkaaW.PrintWords Go.Proofs.Ytkennobdoldlkaa
set_option linter.unusedVariables false
set_option linter.unusedSimpArgs false
theorem hear_st (d : Drv) (er : Int) (va : ByteArray) (ve : Int) (fo co : Bool) : (hearV d er va ve fo co).st = d.st := by
  unfold hearV
  split
  · rfl
  · split
    · exact works_st _ _ _ _ _
    · split
      · split <;> rfl
      · split
        · split
          · exact on_st _ _
          · rfl
        · split
          · rfl
          · exact on_st _ _
theorem works_sw (d : Drv) (er : Int) (va : ByteArray) (ve : Int) (fo : Bool) : (worksV d er va ve fo).sw.length ≤ d.sw.length + 1 := by
  unfold worksV
  split
  · omega
  · split
    · split
      · show (d.sw ++ _).length ≤ _; simp
      · show (d.sw ++ _).length ≤ _; simp
    · show d.sw.length ≤ _; omega
theorem hear_sw (d : Drv) (er : Int) (va : ByteArray) (ve : Int) (fo co : Bool) : (hearV d er va ve fo co).sw.length ≤ d.sw.length + 1 := by
  unfold hearV
  split
  · omega
  · split
    · exact works_sw _ _ _ _ _
    · split
      · split <;> (show d.sw.length ≤ _; omega)
      · split
        · split
          · rw [on_sw]; omega
          · show d.sw.length ≤ _; omega
        · split
          · show d.sw.length ≤ _; omega
          · rw [on_sw]; omega
/-- A drive that the walks may be asked of. -/
structure DOk (d : Drv) : Prop where
  len : d.st.length ≤ 3000000000000
  rng : ∀ x ∈ d.st, 0 ≤ x.f0 ∧ x.f0 ≤ 18446744073709551615
  saw : d.sw.length ≤ 2513169434843
structure DrvAt (ws w : World) (q : Nat) (d : Drv) (A : Option Addr) (c : Nat) (B : Option Addr) (e9 : Nat) : Prop where
  cells : w.heap[q]? = some (.cells #[.int .u64 d.ta, .int .u64 d.ti, .slice A d.st.length c, .int .i64 d.ph, .int .i64 d.ap, .bool d.fa, .bool d.og, .bool d.cm, .slice B d.sw.length e9] 30 (0, 0))
  len : d.st.length ≤ c
  st : Kd.C k53 ws A d.st.length d.st
  old : Below ws.heap.size ws w
  box : ws.heap.size ≤ q
  sw : Own 5 51 w (q + 1) (.slice B d.sw.length e9) (d.sw.map enc51)
theorem DrvAt.lt {ws w : World} {q : Nat} {d : Drv} {A : Option Addr} {c : Nat} {B : Option Addr} {e9 : Nat} (h : DrvAt ws w q d A c B e9) : q < w.heap.size := (Array.getElem?_eq_some_iff.1 h.cells).1
theorem DrvAt.below {ws w w' : World} {q : Nat} {d : Drv} {A : Option Addr} {c : Nat} {B : Option Addr} {e9 : Nat} (h : DrvAt ws w q d A c B e9) (hb : Below w.heap.size w w') : DrvAt ws w' q d A c B e9 :=
  ⟨stay20 hb h.cells, h.len, h.st, h.old.trans (hb.mono h.old.size), h.box, h.sw.below hb⟩
theorem DrvAt.sawC {ws w : World} {q : Nat} {d : Drv} {A : Option Addr} {c : Nat} {B : Option Addr} {e9 : Nat} (h : DrvAt ws w q d A c B e9) : Kd.C k51 w B d.sw.length d.sw ∧ d.sw.length ≤ e9 := by
  obtain ⟨A', c', e, hc, hC⟩ := flat51.ofsl h.sw.sl
  cases e
  exact ⟨hC, hc⟩
theorem DrvAt.next {ws w : World} {q : Nat} {d : Drv} {A : Option Addr} {c : Nat} {B : Option Addr} {e9 : Nat} (h : DrvAt ws w q d A c B e9) (ok : DOk d) (W : World) (hb : Below w.heap.size w W) :
    Calls Try.prog 10 #[.agg #[.int .u64 d.ta, .int .u64 d.ti, .slice A d.st.length c, .int .i64 d.ph, .int .i64 d.ap, .bool d.fa, .bool d.og, .bool d.cm, .slice B d.sw.length e9]] W (NextPost d W) :=
  next_calls d.ta d.ti A c d.st d.ph d.ap d.fa d.og d.cm B e9 d.sw W (Kd.C_below h.st (h.old.trans (hb.mono h.old.size))) h.len (Kd.C_below h.sawC.1 hb) h.sawC.2 ok.len ok.rng
theorem DrvAt.hear {ws w : World} {q : Nat} {d : Drv} {A : Option Addr} {c : Nat} {B : Option Addr} {e9 : Nat} (h : DrvAt ws w q d A c B e9) (ok : DOk d) (er : Int) (va : ByteArray) (ve : Int) (fo co : Bool) (W : World) (hb : Below w.heap.size w W) :
    Calls Try.prog 14 #[.agg #[.int .u64 d.ta, .int .u64 d.ti, .slice A d.st.length c, .int .i64 d.ph, .int .i64 d.ap, .bool d.fa, .bool d.og, .bool d.cm, .slice B d.sw.length e9], .agg #[.int .i64 er, .string va, .int .u64 ve, .bool fo, .bool co]] W fun e w' => ∃ B' e9', e = .returned (.agg #[.int .u64 (hearV d er va ve fo co).ta, .int .u64 (hearV d er va ve fo co).ti, .slice A (hearV d er va ve fo co).st.length c, .int .i64 (hearV d er va ve fo co).ph, .int .i64 (hearV d er va ve fo co).ap, .bool (hearV d er va ve fo co).fa, .bool (hearV d er va ve fo co).og, .bool (hearV d er va ve fo co).cm, .slice B' (hearV d er va ve fo co).sw.length e9']) ∧
      Below W.heap.size W w' ∧ Own 5 51 w' (q + 1) (.slice B' (hearV d er va ve fo co).sw.length e9') ((hearV d er va ve fo co).sw.map enc51) := by
  refine (hear_calls d.ta d.ti A c d.st d.ph d.ap d.fa d.og d.cm B e9 d.sw er va ve fo co W (Kd.C_below h.st (h.old.trans (hb.mono h.old.size))) h.len (Kd.C_below h.sawC.1 hb) h.sawC.2 ok.len ok.rng ok.saw).mono ?_
  rintro e w' ⟨vw, rfl, hs, hb'⟩
  change (vw = .slice B d.sw.length e9 ∧ (hearV d er va ve fo co).sw = d.sw) ∨ Own 5 51 w' W.heap.size vw ((hearV d er va ve fo co).sw.map enc51) at hs
  have hq := h.lt
  rcases hs with ⟨rfl, hs⟩ | ho
  · refine ⟨B, e9, ?_, hb', ?_⟩
    · rw [hs]; rfl
    · rw [hs]; exact (h.sw.below hb).below hb'
  · obtain ⟨B', e9', rfl, _⟩ := own_sl20 ho
    rw [List.length_map] at *
    exact ⟨B', e9', rfl, hb', ho.lower (by have := hb.size; omega)⟩
/-- What was heard is stored into the drive's own box. -/
theorem DrvAt.put {ws w W : World} {q : Nat} {d d' : Drv} {A : Option Addr} {c : Nat} {B : Option Addr} {e9 : Nat} (h : DrvAt ws w q d A c B e9) (hst : d'.st = d.st) {B' : Option Addr} {e9' : Nat} (hb : Below w.heap.size w W) (ho : Own 5 51 W (q + 1) (.slice B' d'.sw.length e9') (d'.sw.map enc51)) :
    DrvAt ws (putB9 W q (.int .u64 d'.ta) (.int .u64 d'.ti) (.slice A d'.st.length c) (.int .i64 d'.ph) (.int .i64 d'.ap) (.bool d'.fa) (.bool d'.og) (.bool d'.cm) (.slice B' d'.sw.length e9')) q d' A c B' e9' :=
  ⟨putB9_at (stay20 hb h.cells) _ _ _ _ _ _ _ _ _, by rw [hst]; exact h.len, by rw [hst]; exact h.st, putB9_below (h.old.trans (hb.mono h.old.size)) h.box _ _ _ _ _ _ _ _ _, h.box,
    ho.kept (putB9_grown _ _ _ _ _ _ _ _ _ _ _) (fun b e e2 => by have := ho.base b e; have := Option.some.inj e2; omega)⟩
/-- A new drive is laid into a new box. -/
theorem DrvAt.made {w0 w : World} {r : Drv} {A : Option Addr} {n c : Nat} (hs : r.sw = []) (ho : Own 5 53 w w0.heap.size (.slice A n c) (r.st.map enc53)) (hn : n = r.st.length) :
    DrvAt w (w.alloc (.cells #[.int .u64 r.ta, .int .u64 r.ti, .slice A r.st.length c, .int .i64 r.ph, .int .i64 r.ap, .bool r.fa, .bool r.og, .bool r.cm, .slice none 0 0] 30)) w.heap.size r A c none 0 := by
  subst hn
  obtain ⟨A', c', e, hc, hC⟩ := flat53.ofsl ho.sl
  cases e
  refine ⟨?_, hc, hC, (Below.refl _ _).alloc (Nat.le_refl _) _, Nat.le_refl _, ?_⟩
  · rw [hs]; exact heap_alloc_new w _
  · rw [hs]; exact Own.nil _ _ _ _
/-! ### The example. -/
def exStp : List S53 := [⟨1, ⟨#[97]⟩, ⟨#[49]⟩, true, false⟩, ⟨2, ⟨#[98]⟩, ⟨#[]⟩, false, false⟩]
def exD : Nat → Drv
  | 0 => ⟨1, 0, exStp, 0, 0, false, false, false, []⟩
  | j + 1 => hearV (exD j) 0 ⟨#[]⟩ 0 false true
def exK (j : Nat) : Int := [2, 1, 5, 3, 3, 6, 4, 4].getD j 0
def exG (j : Nat) : Int := [1, 2, 0, 1, 2, 0, 1, 2].getD j 0
theorem ex_begin : beginV 1 0 exStp = (exD 0, 0) := by kernel_rfl
theorem ex_next : ∀ j : Fin 8, (nextV (exD j)).2.2 = true ∧ (nextV (exD j)).1 = exG j ∧ (nextV (exD j)).2.1.kind = exK j := by
  intro j
  match j with
  | 0 => exact ⟨by kernel_rfl, by kernel_rfl, by kernel_rfl⟩
  | 1 => exact ⟨by kernel_rfl, by kernel_rfl, by kernel_rfl⟩
  | 2 => exact ⟨by kernel_rfl, by kernel_rfl, by kernel_rfl⟩
  | 3 => exact ⟨by kernel_rfl, by kernel_rfl, by kernel_rfl⟩
  | 4 => exact ⟨by kernel_rfl, by kernel_rfl, by kernel_rfl⟩
  | 5 => exact ⟨by kernel_rfl, by kernel_rfl, by kernel_rfl⟩
  | 6 => exact ⟨by kernel_rfl, by kernel_rfl, by kernel_rfl⟩
  | 7 => exact ⟨by kernel_rfl, by kernel_rfl, by kernel_rfl⟩
theorem ex_end : (nextV (exD 8)).2.2 = false ∧ (exD 8).ph = 5 ∧ (exD 8).cm = true := ⟨by kernel_rfl, by kernel_rfl, by kernel_rfl⟩
theorem ex_st (j : Nat) : (exD j).st = exStp := by
  induction j with
  | zero => rfl
  | succ j ih => exact (hear_st _ _ _ _ _ _).trans ih
theorem ex_sw (j : Nat) : (exD j).sw.length ≤ j := by
  induction j with
  | zero => exact Nat.le_refl _
  | succ j ih => exact Nat.le_trans (hear_sw _ _ _ _ _ _) (by omega)
theorem ex_ok (j : Nat) (hj : j ≤ 8) : DOk (exD j) := by
  refine ⟨?_, ?_, ?_⟩
  · rw [ex_st]; decide
  · rw [ex_st]
    intro x hx
    simp only [exStp, List.mem_cons, List.not_mem_nil, or_false] at hx
    rcases hx with rfl | rfl
    · exact ⟨by show (0 : Int) ≤ 1; omega, by show (1 : Int) ≤ 18446744073709551615; omega⟩
    · exact ⟨by show (0 : Int) ≤ 2; omega, by show (2 : Int) ≤ 18446744073709551615; omega⟩
  · have := ex_sw j; omega
end Go.Proofs.Ytkennobdoldlkaa.PAll
end
section
-- Printed by this session's pr.sh (the kit's print.py, several laws in one namespace). Not trusted: Lean checks it.
namespace Go.Proofs.Ytkennobdoldlkaa.PAll
open Go.RowKit Go.Proofs.YtkennobdoldlkaaW.PrintWords Go.Proofs.YtkennobdoldlkaaW.PrintLast Go.Proofs.YtkennobdoldlkaaW.PrintMore
attribute [local go_sem] max2_int min2_int max_two min_two max_three min_three max_four min_four   -- for this text's walks alone
set_option linter.unusedVariables false
set_option linter.unusedSimpArgs false

/-! ### ferrulelaw20_two: function 29 -/
def ferrulelaw20_two.f  : Option (Int × Int × (List (S53))) := some (1, 0, (([(⟨1, (⟨#[97]⟩ : ByteArray), (⟨#[49]⟩ : ByteArray), true, false⟩ : S53), (⟨2, (⟨#[98]⟩ : ByteArray), (⟨#[]⟩ : ByteArray), false, false⟩ : S53)] : List (S53))))
set_option maxHeartbeats 8000000 in
set_option maxRecDepth 100000 in
theorem ferrulelaw20_two.calls  (r1 : Int) (r2 : Int) (r3 : List (S53)) (w : World) (h : ferrulelaw20_two.f  = some (r1, r2, r3)) :
    Calls Try.prog 29 #[] w fun e w' => ∃ v2_ : Value, e = .returned (.agg #[.int .u64 r1, .int .u64 r2, v2_]) ∧ Kd.R k53 53 w' w.heap.size (fun _ => True) v2_ r3 ∧ Below w.heap.size w w' := by
  have hu27 := Try.underlying27
  have hu24 := Try.underlying24
  have hu53 := Try.underlying53
  have HB := Aside0.mk (Below.refl w.heap.size w)
  have H : (some (1, 0, (([(⟨1, (⟨#[97]⟩ : ByteArray), (⟨#[49]⟩ : ByteArray), true, false⟩ : S53), (⟨2, (⟨#[98]⟩ : ByteArray), (⟨#[]⟩ : ByteArray), false, false⟩ : S53)] : List (S53))))) = some (r1, r2, r3) := h
  clear h
  obtain ⟨y444, hy444⟩ : ∃ y_ : List (S53), y_ = (([(⟨1, (⟨#[97]⟩ : ByteArray), (⟨#[49]⟩ : ByteArray), true, false⟩ : S53), (⟨2, (⟨#[98]⟩ : ByteArray), (⟨#[]⟩ : ByteArray), false, false⟩ : S53)] : List (S53))) := ⟨_, rfl⟩
  replace H : (some (1, 0, y444)) = some (r1, r2, r3) := by first | (rw [hy444]; with_reducible exact H) | (have H2_ := (Option.bind_some _ _).symm.trans H; rw [hy444]; with_reducible exact H2_) | (have H2_ := (Option.bind_some _ _).symm.trans H; with_reducible exact H2_) | with_reducible exact H | (rw [hy444]; exact H) | exact H
  have Ny444 := Aside0.mk hy444
  clear hy444
  simp only [Option.some.injEq, Prod.mk.injEq] at H
  obtain ⟨rfl, rfl, rfl⟩ := H
  go_enter Try.func29, Try.ntmps29
  go_wp2_with (first | ((with_reducible refine gate_dst (N := 0) rfl ?_); refine box_event ?hg (N := 0) ?hd (cs := #[.int .u64 0, .int .u64 0, .slice none 0 0]) (t := 27) ?hr ?_; (case hd => rfl); (case hg => rfl); (case hr => first | (go_simp; done) | (go_simp; rfl)); intro gb443 hg w1 hbox hb; have n0_ := Aside0.mk (below_step (by repeat (first | (with_reducible first | exact HB.out | apply below_alloc | apply pw_below_drewN | apply below_drew1) | exact HB.out)) hb); have n1_ := Aside0.mk (hbox); have n2_ := Aside0.mk ((by rw [hg]; exact (below_size (by repeat (first | (with_reducible first | exact HB.out | apply below_alloc | apply pw_below_drewN | apply below_drew1) | exact HB.out))) : w.heap.size ≤ gb443)); have n3_ := Aside0.mk ((by rw [hg]; exact (below_size (by repeat (first | (with_reducible first | exact HB.out | apply below_alloc | apply pw_below_drewN | apply below_drew1) | exact HB.out))) : w.heap.size ≤ gb443)); clear HB; have HB := n0_; have BK443 := n1_; have GW443 := n2_; have GE443 := n3_; clear n0_ n1_ n2_ n3_; clear hb hbox hg) | ((with_reducible refine gate_dst (N := 4) rfl ?_); refine Kd.R_lit k53 _ 53 ?hg (N := 4) ?hd (xs := ([(⟨1, (⟨#[97]⟩ : ByteArray), (⟨#[49]⟩ : ByteArray), true, false⟩ : S53), (⟨2, (⟨#[98]⟩ : ByteArray), (⟨#[]⟩ : ByteArray), false, false⟩ : S53)] : List (S53))) (inner := [.int .u64 1, .string (⟨#[97]⟩ : ByteArray), .string (⟨#[49]⟩ : ByteArray), .bool true, .bool false, .int .u64 2, .string (⟨#[98]⟩ : ByteArray), .string (⟨#[]⟩ : ByteArray), .bool false, .bool false]) (ok := fun _ => True) (okp := fun _ => True) ?hr ?hp (fun _ hk => hk) trivial (Below.refl _ _) (Nat.le_refl _) (by simp) ?_; (case hd => rfl); (case hg => rfl); (case hr => first | (go_simp; done) | (go_simp; rfl)); (case hp => exact (Reps.c5 (show Kd.M k53 _ _ _ (⟨1, (⟨#[97]⟩ : ByteArray), (⟨#[49]⟩ : ByteArray), true, false⟩ : S53) [.int .u64 1, .string (⟨#[97]⟩ : ByteArray), .string (⟨#[49]⟩ : ByteArray), .bool true, .bool false] from (k53_mkM _ _ _ (⟨1, (⟨#[97]⟩ : ByteArray), (⟨#[49]⟩ : ByteArray), true, false⟩ : S53) )) (Reps.c5 (show Kd.M k53 _ _ _ (⟨2, (⟨#[98]⟩ : ByteArray), (⟨#[]⟩ : ByteArray), false, false⟩ : S53) [.int .u64 2, .string (⟨#[98]⟩ : ByteArray), .string (⟨#[]⟩ : ByteArray), .bool false, .bool false] from (k53_mkM _ _ _ (⟨2, (⟨#[98]⟩ : ByteArray), (⟨#[]⟩ : ByteArray), false, false⟩ : S53) )) (Reps.none _ _)))); intro v445 w2 ho3 hb hg_ hnew_; clear hg_ hnew_; (first | rw [← Ny444.out] at ho3 | (simp only [Int.reduceToNat] at ho3; rw [← Ny444.out] at ho3)); have n0_ := Aside0.mk (Kd.R_lower ho3 (below_size (by repeat (first | (with_reducible first | exact HB.out | apply below_alloc | apply pw_below_drewN | apply below_drew1 | refine below_set ?_ GE443.out) | exact HB.out)))); have n1_ := Aside0.mk (blk_below (g := gb443) (o := .cells #[.int .u64 0, .int .u64 0, .slice none 0 0] 27 (0, 0)) (by (with_reducible repeat (first | refine blk_drewN ?_ _ | refine blk_drew ?_ | refine blk_alloc ?_ _)); exact BK443.out) hb); have n2_ := Aside0.mk (below_step (by repeat (first | (with_reducible first | exact HB.out | apply below_alloc | apply pw_below_drewN | apply below_drew1 | refine below_set ?_ GE443.out) | exact HB.out)) hb); clear BK443; clear HB; have HO446 := n0_; have BK443 := n1_; have HB := n2_; clear n0_ n1_ n2_; clear hb ho3; obtain ⟨Ao4, co4, eo4⟩ := Kd.R_slice HO446.out; subst eo4; have hcz5_0 : w2.cell? ⟨gb443, 0, none⟩ = some (.int .u64 0) := (blk_cell BK443.out 0).trans rfl; have hcz5_1 : w2.cell? ⟨gb443, 1, none⟩ = some (.int .u64 0) := (blk_cell BK443.out 1).trans rfl; have hcz5_2 : w2.cell? ⟨gb443, 2, none⟩ = some (.slice none 0 0) := (blk_cell BK443.out 2).trans rfl; have hfz5_0 := blk_frozen BK443.out 0; have hfz5_1 := blk_frozen BK443.out 1; have hfz5_2 := blk_frozen BK443.out 2))
  refine bodyPost_ret (results_cell_row rfl _ _ gb443 27 #[.int .u64 1, .int .u64 0, .slice Ao4 y444.length co4] (0, 0) _ rfl (by (with_reducible repeat (first | refine blk_drewN ?_ _ | refine blk_drew ?_ | refine blk_alloc ?_ _)); refine blk_put (cs := #[.int .u64 1, .int .u64 0, .slice none 0 0]) ?_ 2 _ rfl; (with_reducible repeat (first | refine blk_drewN ?_ _ | refine blk_drew ?_ | refine blk_alloc ?_ _)); refine blk_put (cs := #[.int .u64 1, .int .u64 0, .slice none 0 0]) ?_ 1 _ rfl; (with_reducible repeat (first | refine blk_drewN ?_ _ | refine blk_drew ?_ | refine blk_alloc ?_ _)); refine blk_put (cs := #[.int .u64 0, .int .u64 0, .slice none 0 0]) ?_ 0 _ rfl; (with_reducible repeat (first | refine blk_drewN ?_ _ | refine blk_drew ?_ | refine blk_alloc ?_ _)); exact BK443.out) Try.underlying27 rfl (by kernel_rfl)) rfl ?_
  exact ⟨_, by first | rfl | (simp [errW_none, errW_some] <;> rfl) | (simp [*, errW_none, errW_some] <;> rfl), by (with_reducible repeat (first | apply Kd.R_alloc | apply Kd.R_drewN | apply Kd.R_drew)); exact Kd.R_mono (Kd.R_far (p := ⟨gb443, 2, none⟩) (Kd.R_far (p := ⟨gb443, 1, none⟩) (Kd.R_far (p := ⟨gb443, 0, none⟩) (Kd.R_types HO446.out BK443.out (by decide)) (fun _ hk => hk.2) (.int .u64 1)) (fun _ hk => hk.2) (.int .u64 0)) (fun _ hk => hk.2) (.slice Ao4 y444.length co4)) (fun _ hk => trivial), by repeat (first | (with_reducible first | exact HB.out | apply below_alloc | apply pw_below_drewN | apply below_drew1 | refine below_set ?_ GE443.out) | exact HB.out)⟩

end Go.Proofs.Ytkennobdoldlkaa.PAll
end
