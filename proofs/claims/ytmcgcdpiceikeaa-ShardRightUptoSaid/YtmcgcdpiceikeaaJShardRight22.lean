/- Joined texts of the claim ShardRight (part 22): contracts of functions and plain laws. -/
import Derived.Maps.OwnSet
import Derived.Test.YtmcgcdpiceikeaaJShardRight21
section
/- lock.Ask, walked. -/
namespace Go.Proofs.Ytmcgcdpiceikeaa.PAll
open Go.RowKit Go.WideMaps Go.Maps Go.Proofs.YtmcgcdpiceikeaaW.PrintWords Go.Proofs.YtmcgcdpiceikeaaW.PrintMore Go.Proofs.Ytmcgcdpiceikeaa
set_option linter.unusedVariables false
/-- What a call of lock.Ask answers, in memory. -/
def AskPost (w : World) (r : List S75 × List S30 × Int) (e : Ending) (w' : World) : Prop := ∃ v1 v2 : Value, e = .returned (.tuple #[v1, v2, .int .i64 r.2.2]) ∧ Own 4 75 w' w.heap.size v1 (r.1.map enc75) ∧ Own 2 30 w' w.heap.size v2 (r.2.1.map enc30) ∧ Below w.heap.size w w'
set_option maxHeartbeats 4000000 in
set_option maxRecDepth 100000 in
theorem ask_there (A : Option Addr) (c : Nat) (l : List S75) (t : S30) (key : ByteArray) (wt : Bool) (fv : Value) (firm : List S30) (w : World) (hr : Kd.C k75 w A l.length l) (hc : l.length ≤ c) (hl : l.length * 40 ≤ 140737488355328)
    (hh : 0 ≤ findI (isHK t key) l ∧ ((atI l (findI (isHK t key) l)).f2 || !wt) = true) :
    Calls Try.prog 54 #[.slice A l.length c, .agg #[.int .u64 t.f0, .int .u64 t.f1], .string key, .bool wt, fv] w (AskPost w (l, [], 0)) := by
  obtain ⟨ii, hii, hfi⟩ := findI_range _ _ hh.1
  have hx : ((l[ii]!).f2 || !wt) = true := by have := hh.2; unfold atI at this; rw [hfi] at this; exact this
  have HB0 := Aside0.mk ((Below.refl w.heap.size w).alloc (Nat.le_refl _) (.cells #[.int .u64 t.f0, .int .u64 t.f1] 30))
  have HOF := Aside0.mk (fun W (hW : Below w.heap.size w W) => lockOf_sl (.slice A l.length c) l t key W ⟨A, c, rfl, hc, Kd.C_below hr hW⟩)
  rw [hfi] at HOF
  have HCL := Aside0.mk (fun W (hW : Below w.heap.size w W) => CloneHold (.slice A l.length c) (l.map enc75) W (flat75.sl ⟨A, c, rfl, hc, Kd.C_below hr hW⟩) (by rw [List.length_map]; exact hl))
  obtain ⟨b, o, rfl, _, _, _, hcw⟩ := holdCells hr ii hii
  have HCW := Aside0.mk hcw
  have hiz : (0 : Int) ≤ (ii : Int) := by omega
  have hiz2 : (ii : Int) < (l.length : Int) := by omega
  have hm : l.length ≤ 9223372036854775807 := by omega
  have HX := Aside0.mk hx
  clear hr hc hh hfi hcw hx hl
  generalize (l[ii]!).f2 = fw at *
  have hfw : fw = true ∨ (fw = false ∧ wt = false) := by have := HX.out; cases fw <;> cases wt <;> simp at *
  rcases hfw with rfl | ⟨rfl, rfl⟩
  all_goals
    go_enter Try.func54, Try.ntmps54
    go_wp2_with (first
      | (go_at_call 84; refine (HOF.out _ HB0.out).mono ?_; rintro e w1 ⟨rfl, hb1⟩; have HB1 := Aside0.mk (HB0.out.trans (hb1.mono HB0.out.size)); clear hb1; have hcw1 := (HB1.out.cell (World.block_lt_of_cell? _ _ HCW.out)).trans HCW.out)
      | (go_at_call 85; refine (HCL.out _ HB1.out).mono ?_; rintro e w2 ⟨v2, rfl, ho2, hb2⟩; have HO2 := Aside0.mk ho2; have HB2 := Aside0.mk hb2; clear ho2 hb2))
    go_ret3
    exact ⟨v2, _, rfl, HO2.out.lower HB1.out.size, Own.nil _ _ _ _, HB1.out.trans (HB2.out.mono HB1.out.size)⟩
theorem someNe {a b : Nat} (h : a ≠ b) : some a ≠ some b := fun e => h (Option.some.inj e)
theorem txCells2 {W : World} {l : List S30} {A : Option Addr} (h : Kd.C k30 W A l.length l) (j : Nat) (hj : j < l.length) : ∃ b o, A = some ⟨b, o, none⟩ ∧ W.cell? ⟨b, o + j * 2, none⟩ = some (.int .u64 (l[j]!).f0) ∧ W.cell? ⟨b, o + j * 2 + 1, none⟩ = some (.int .u64 (l[j]!).f1) := by
  obtain ⟨b, o, rfl, hrow⟩ := C_row h (by decide) (by omega)
  obtain ⟨cs, hcs, hK, hrg⟩ := hrow j hj
  obtain rfl := flat30.openK _ _ _ hK
  exact ⟨b, o, rfl, hrg 0 _ rfl, hrg 1 _ rfl⟩
def setOfTx (l : List S30) (p : UInt64 × UInt64) : Bool := l.any (fun x => txw x == p)
theorem setOf_has {l : List S30} {t : S30} (hl : ∀ x ∈ l, okTx x) (ht : okTx t) : setOfTx l (txw t) = hasTx l t := by
  unfold setOfTx hasTx
  induction l with
  | nil => rfl
  | cons x r ih =>
    rw [List.any_cons, List.any_cons, ih (fun y hy => hl y (List.mem_cons_of_mem _ hy))]
    refine congrArg (· || _) ?_
    have h := txw_inj (hl x List.mem_cons_self) ht
    rw [Bool.eq_iff_iff, beq_iff_eq, h]
    rfl
theorem setOf_snoc (l : List S30) (t : S30) : (fun z => if z = txw t then true else setOfTx l z) = setOfTx (l ++ [t]) := by
  funext z
  unfold setOfTx
  rw [any_snoc]
  by_cases h : z = txw t
  · rw [if_pos h, h, beq_self_eq_true, Bool.or_true]
  · rw [if_neg h, beq_eq_false_iff_ne.2 (fun e => h e.symm), Bool.or_false]
theorem bangMem {α : Type} [Inhabited α] (l : List α) (j : Nat) (hj : j < l.length) : l[j]! ∈ l := by rw [getElem!_pos l j hj]; exact List.getElem_mem hj
theorem takeBang {α : Type} [Inhabited α] (l : List α) (j : Nat) (hj : j < l.length) : l.take (j + 1) = l.take j ++ [l[j]!] := by rw [List.take_succ_eq_append_getElem hj, getElem!_pos l j hj]
theorem dropBang {α : Type} [Inhabited α] (l : List α) (j : Nat) (hj : j < l.length) : l.drop j = l[j]! :: l.drop (j + 1) := by rw [List.drop_eq_getElem_cons hj, getElem!_pos l j hj]
/-- Is a hold, cell by cell, one of those? -/
def isOut (out : List S30) : List Value → Bool
  | [_, .int _ a, .int _ b, _] => hasTx out ⟨a, b⟩
  | _ => false
theorem raw_filterO (out : List S30) (l : List S75) : (l.map enc75).filter (fun c => !isOut out c) = (restV l out).map enc75 := by
  unfold restV
  rw [List.filter_map]; rfl
set_option maxHeartbeats 1000000 in
theorem lockAsk1 (Bv bW n : Nat) (out : List S30) (x : S75) (W : World) (hx : okTx x.f1) (ho : ∀ y ∈ out, okTx y) (h0 : W.cell? ⟨Bv, 0, none⟩ = some (.map (some bW))) (hm : BoolMap txLit 30 W bW n (setOfTx out)) :
    Calls Try.prog 88 #[.agg (enc75 x).toArray, .pointer (some ⟨Bv, 0, none⟩)] W fun e W' => e = .returned (.bool (hasTx out x.f1)) ∧ Below W.heap.size W W' := by
  have hb := (Below.refl W.heap.size W).alloc (Nat.le_refl _) (.cells #[.string x.f0, .int .u64 x.f1.f0, .int .u64 x.f1.f1, .bool x.f2] 75)
  have hlk := (hm.kept hb).lookup txKeyed Try.underlying76 (txKey hx)
  rw [setOf_has ho hx] at hlk
  have hc0 := (hb.cell (World.block_lt_of_cell? W _ h0)).trans h0
  obtain ⟨xk, ⟨xa, xi⟩, xw⟩ := x
  unfold enc75
  dsimp only at *
  have HB := Aside0.mk hb
  clear hb h0 hm hx ho
  generalize hasTx out ⟨xa, xi⟩ = r at *
  go_enter Try.func88, Try.ntmps88
  go_wp2
  go_ret
  exact ⟨rfl, HB.out⟩
theorem set_enc (m : List S75) (i : Nat) (hi : i < m.length) : (m.map enc75).set i (((m.map enc75)[i]!).set 3 (.bool true)) = (m.set i ⟨(m[i]!).f0, (m[i]!).f1, true⟩).map enc75 := by
  rw [List.map_set]
  congr 1
  rw [getElem!_pos (m.map enc75) i (by simpa using hi), getElem!_pos m i hi, List.getElem_map]
  rfl
set_option maxHeartbeats 8000000 in
set_option maxRecDepth 100000 in
theorem ask_go (A : Option Addr) (c : Nat) (l : List S75) (t : S30) (key : ByteArray) (wt : Bool) (FA : Option Addr) (fc : Nat) (firm : List S30) (w : World) (hr : Kd.C k75 w A l.length l) (hc : l.length ≤ c) (hl : l.length * 40 ≤ 140737488355288) (hrf : Kd.C k30 w FA firm.length firm) (hfc : firm.length ≤ fc) (hfl : firm.length ≤ 8796093022208)
    (hok : ∀ x ∈ l, okTx x.f1) (hokf : ∀ x ∈ firm, okTx x)
    (hh : ¬ (0 ≤ findI (isHK t key) l ∧ ((atI l (findI (isHK t key) l)).f2 || !wt) = true)) :
    Calls Try.prog 54 #[.slice A l.length c, .agg #[.int .u64 t.f0, .int .u64 t.f1], .string key, .bool wt, .slice FA firm.length fc] w (AskPost w (askV l t key wt firm)) := by
  have HB0 := Aside0.mk ((Below.refl w.heap.size w).alloc (Nat.le_refl _) (.cells #[.int .u64 t.f0, .int .u64 t.f1] 30))
  have htx := heap_alloc_new w (.cells #[.int .u64 t.f0, .int .u64 t.f1] 30)
  have HTX := Aside0.mk htx
  have HOF := Aside0.mk (fun W (hW : Below w.heap.size w W) => lockOf_sl (.slice A l.length c) l t key W ⟨A, c, rfl, hc, Kd.C_below hr hW⟩)
  have HCL := Aside0.mk (fun W (hW : Below w.heap.size w W) => CloneHold (.slice A l.length c) (l.map enc75) W (flat75.sl ⟨A, c, rfl, hc, Kd.C_below hr hW⟩) (by rw [List.length_map]; omega))
  have HR := Aside0.mk hr
  have HRF := Aside0.mk hrf
  have HOK := Aside0.mk hok
  have HOKF := Aside0.mk hokf
  have HLL := Aside0.mk hl
  have HFL := Aside0.mk hfl
  have hm : l.length ≤ 9223372036854775807 := by omega
  have hmf : firm.length ≤ 9223372036854775807 := by omega
  have HAV : Aside0 (askV l t key wt firm = askFin l t key wt (goAsk t key wt firm l [])) := ⟨by unfold askV; rw [if_neg hh]⟩
  generalize askV l t key wt firm = R at *
  have HCASE : Aside0 (findI (isHK t key) l = -1 ∨ ∃ ii : Nat, ii < l.length ∧ findI (isHK t key) l = (ii : Int) ∧ (l[ii]!).f2 = false ∧ wt = true) := ⟨by
    by_cases h0 : 0 ≤ findI (isHK t key) l
    · obtain ⟨ii, h1, h2⟩ := findI_range _ _ h0
      have h3 : ¬ ((atI l (findI (isHK t key) l)).f2 || !wt) = true := fun h => hh ⟨h0, h⟩
      unfold atI at h3
      rw [h2] at h3
      have h4 : ¬ ((l[ii]!).f2 || !wt) = true := h3
      rw [Bool.or_eq_true] at h4
      refine .inr ⟨ii, h1, h2, ?_, ?_⟩
      · cases h5 : (l[ii]!).f2
        · rfl
        · exact absurd (Or.inl h5) h4
      · cases wt
        · exact absurd (Or.inr rfl) h4
        · rfl
    · exact .inl (findI_neg _ _ h0)⟩
  have hmm := @run_makeMap Try.prog
  clear hh hr hrf hok hokf hl htx hfl
  rcases HCASE.out with hfi | ⟨ii, hii, hfi, hfw, rfl⟩
  · rw [hfi] at HOF
    clear hfi HCASE
    go_enter Try.func54, Try.ntmps54
    go_wp2_with (first
      | (go_at_call 84; refine (HOF.out _ HB0.out).mono ?_; rintro e w1 ⟨rfl, hb1⟩; have HB1 := Aside0.mk hb1; clear hb1))
    generalize w.alloc (.cells #[.int .u64 t.f0, .int .u64 t.f1] 30) = W0 at *
    have HZ0 : Aside0 (w.heap.size < W0.heap.size) := ⟨(Array.getElem?_eq_some_iff.1 HTX.out).1⟩
    have HZ1 := Aside0.mk HB1.out.size
    go_loopg [45] firm.length (fun gg s45 wa => ∃ kk : Nat, kk ≤ firm.length ∧ firm.length - kk ≤ gg ∧ s45 = .int .i64 kk ∧ Aside0 (Below W0.heap.size W0 wa) ∧ Aside0 (BoolMap txLit 30 wa w1.heap.size kk (setOfTx (firm.take kk))))
    case atStart => exact ⟨0, Nat.zero_le _, by omega, rfl, ⟨HB1.out.alloc HB1.out.size _⟩, ⟨BoolMap.made txLit 30 (World.ownsMap_made _ _ _ _)⟩⟩
    case round =>
      obtain ⟨kk, hkk, hg, rfl, BW, BM⟩ := hrel
      by_cases hlt : kk < firm.length
      · have hltz : (kk : Int) < (firm.length : Int) := by omega
        obtain ⟨fb, fo, rfl, hc0_, hc1_⟩ := txCells2 (Kd.C_below (Kd.C_below HRF.out HB0.out) (BW.out.mono (Nat.le_refl _))) kk hlt
        have HT := Aside0.mk (takeBang firm kk hlt)
        have HX := Aside0.mk (HOKF.out _ (bangMem firm kk hlt))
        have hlim : Aside0 (kk < maxLen) := ⟨by unfold maxLen; omega⟩
        have hbl := Aside0.mk (BM.out.lt)
        generalize firm[kk]! = x at *
        have HK := Aside0.mk (txKey HX.out)
        obtain ⟨x0, x1⟩ := x
        dsimp only at hc0_ hc1_ HK
        have BM1 := Aside0.mk (BM.out.below ((Below.refl wr.heap.size wr).alloc (Nat.le_refl _) (.cells #[.int .u64 x0, .int .u64 x1] 30)) hbl.out)
        go_wp2_with (at_mapUpdate; refine wpList_put_bool _ rfl _ _ _ 76 rfl txKeyed Try.underlying76 txLit_inj txLit_key2 rfl BM1.out hlim.out _ _ true rfl rfl HK.out ?_; intro w2 hM2 hg2; have HM2 := Aside0.mk hM2; have HG2 := Aside0.mk hg2; clear hM2 hg2)
        go_roundg (firm.length - (kk + 1))
        case measure => omega
        case rel => exact ⟨kk + 1, by omega, by omega, by go_num, ⟨(BW.out.alloc BW.out.size _).grown HG2.out (by simp; have := BW.out.size; omega) (fun k e => by cases e; exact HZ1.out)⟩, ⟨by rw [HT.out, ← setOf_snoc]; exact HM2.out⟩⟩
      · have hltz : ¬ (kk : Int) < (firm.length : Int) := by omega
        obtain rfl : kk = firm.length := by omega
        rw [List.take_length] at BM
        obtain ⟨wo, rfl⟩ : ∃ wo : World, wo = wr := ⟨_, rfl⟩
        have HSF := Aside0.mk (fun (y : S30) (hy : okTx y) => setOf_has (l := firm) HOKF.out hy)
        have HBO := Aside0.mk (((Below.refl wo.heap.size wo).alloc (Nat.le_refl _) (.map #[] 0)).alloc (by simp) (.cells #[.map (some wo.heap.size)] 76))
        have HSO : Aside0 (w1.heap.size < wo.heap.size) := ⟨BM.out.lt⟩
        have HZW := Aside0.mk BW.out.size
        go_wp2
        go_loopg [18, 55] l.length (fun gg s18 s55 wq => ∃ (jj : Nat) (out : List S30), jj ≤ l.length ∧ l.length - jj ≤ gg ∧ s55 = .int .i64 jj ∧ Aside0 (Below W0.heap.size W0 wq) ∧ Aside0 (BoolMap txLit 30 wq w1.heap.size firm.length (setOfTx firm)) ∧ Aside0 (BoolMap txLit 30 wq wo.heap.size jj (setOfTx out)) ∧ Aside0 (wq.cell? ⟨wo.heap.size + 1, 0, none⟩ = some (.map (some wo.heap.size))) ∧ Aside0 (Own 2 30 wq (wo.heap.size + 2) s18 (out.map enc30)) ∧ Aside0 (goAsk t key wt firm (l.drop jj) out = goAsk t key wt firm l []) ∧ Aside0 (out.length ≤ jj ∧ ∀ y ∈ out, okTx y) ∧ Aside0 (wo.heap.size + 2 ≤ wq.heap.size))
        case atStart =>
          refine ⟨0, [], Nat.zero_le _, by omega, rfl, ⟨(BW.out.alloc BW.out.size _).alloc (by simp; have := HZW.out; omega) _⟩, ⟨BM.out.kept HBO.out⟩, ⟨?_⟩, ⟨?_⟩, ⟨Own.nil _ _ _ _⟩, ⟨rfl⟩, ⟨Nat.le_refl _, by simp⟩, ⟨by simp⟩⟩
          · exact (BoolMap.made txLit 30 (World.ownsMap_made _ _ _ _)).kept ((Below.refl _ _).alloc (Nat.le_refl _) _)
          · have := cell_row (cs := [.map (some wo.heap.size)]) (heap_alloc_new (wo.alloc (.map #[] 0)) (.cells #[.map (some wo.heap.size)] 76)) 0
            rwa [World.size_alloc] at this
        case round =>
          obtain ⟨jj, out, hjj, hgj, rfl, BQ, BS, BO, CV, OW, GA, HO, HZQ⟩ := hrel
          by_cases hlj : jj < l.length
          · have hljz : (jj : Int) < (l.length : Int) := by omega
            obtain ⟨lb, lo, hA, hd0_, hd1_, hd2_, hd3_⟩ := holdCells (Kd.C_below (Kd.C_below HR.out HB0.out) (BQ.out.mono (Nat.le_refl _))) jj hlj
            cases hA
            have HJ := Aside0.mk (dropBang l jj hlj)
            have HX := Aside0.mk (HOK.out _ (bangMem l jj hlj))
            generalize l[jj]! = x at *
            have HIN := inWay_val x t key wt
            have HGS : Aside0 (goAsk t key wt firm (x :: l.drop (jj + 1)) out = goAsk t key wt firm l []) := ⟨by rw [← HJ.out]; exact GA.out⟩
            have HK := Aside0.mk (txKey HX.out)
            have HEL := elder_val t x.f1
            have HSX := HSF.out x.f1 HX.out
            have HSOx := setOf_has HO.out.2 HX.out
            have HSN := Aside0.mk (setOf_snoc out x.f1)
            obtain ⟨xk, ⟨xa, xi⟩, xw⟩ := x
            dsimp only at hd0_ hd1_ hd2_ hd3_ HIN HK HEL HSX HSOx
            clear HJ
            have HAH := Aside0.mk ((Below.refl wr.heap.size wr).alloc (Nat.le_refl _) (.cells #[.string xk, .int .u64 xa, .int .u64 xi, .bool xw] 75))
            have HHB := Aside0.mk (heap_alloc_new wr (.cells #[.string xk, .int .u64 xa, .int .u64 xi, .bool xw] 75))
            have htq := (BQ.out.block w.heap.size HZ0.out).trans HTX.out
            have ht0 := (HAH.out.cell (World.block_lt_of_cell? _ _ (cell_row (cs := [.int .u64 t.f0, .int .u64 t.f1]) htq 0))).trans (cell_row (cs := [.int .u64 t.f0, .int .u64 t.f1]) htq 0)
            have ht1 := (HAH.out.cell (World.block_lt_of_cell? _ _ (cell_row (cs := [.int .u64 t.f0, .int .u64 t.f1]) htq 1))).trans (cell_row (cs := [.int .u64 t.f0, .int .u64 t.f1]) htq 1)
            have HTQ := Aside0.mk (((HAH.out.block _ (Array.getElem?_eq_some_iff.1 htq).1)).trans htq)
            clear htq
            cases q1 : inWayB ⟨xk, ⟨xa, xi⟩, xw⟩ t key wt with
            | false =>
              rw [q1] at HIN
              have HI := Aside0.mk HIN
              have HGN : Aside0 (goAsk t key wt firm (l.drop (jj + 1)) out = goAsk t key wt firm l []) := ⟨by rw [← HGS.out, goAsk, q1]; rfl⟩
              clear HIN HEL HSX HSOx q1
              go_wp2_with (go_at_call 76; refine (lock_inWay.calls _ _ _ _ _ _ _ _ _ _ HI.out).mono ?_; rintro e w5 ⟨rfl, hb5⟩; have HB5 := Aside0.mk (HAH.out.trans (hb5.mono HAH.out.size)); clear hb5)
              go_roundg (l.length - (jj + 1))
              case measure => omega
              case rel =>
                have hs5 := HB5.out.size
                exact ⟨jj + 1, out, by omega, by omega, by go_num, ⟨BQ.out.trans (HB5.out.mono BQ.out.size)⟩, ⟨BS.out.kept HB5.out⟩, ⟨(BO.out.kept HB5.out).more (by omega)⟩, ⟨(HB5.out.cell (World.block_lt_of_cell? _ _ CV.out)).trans CV.out⟩, ⟨OW.out.below HB5.out⟩, HGN, ⟨by have := HO.out.1; omega, HO.out.2⟩, ⟨by have := HZQ.out; omega⟩⟩
            | true =>
              rw [q1] at HIN
              have HI := Aside0.mk HIN
              have HLK : Aside0 (∀ W, Below wr.heap.size wr W → (Instr.lookup 76 (.map (some w1.heap.size)) (.agg #[.int .u64 xa, .int .u64 xi]) false).run Try.prog W = .ok (.bool (hasTx firm ⟨xa, xi⟩)) W) := ⟨fun W hW => by
                have := (BS.out.kept hW).lookup txKeyed Try.underlying76 HK.out
                rw [HSX] at this
                exact this⟩
              have HLW : Aside0 (∀ W, Below wr.heap.size wr W → (Instr.lookup 76 (.map (some wo.heap.size)) (.agg #[.int .u64 xa, .int .u64 xi]) false).run Try.prog W = .ok (.bool (hasTx out ⟨xa, xi⟩)) W) := ⟨fun W hW => by
                have := (BO.out.kept hW).lookup txKeyed Try.underlying76 HK.out
                rw [HSOx] at this
                exact this⟩
              have HCELL : Aside0 (∀ W, Below (wr.alloc (.cells #[.string xk, .int .u64 xa, .int .u64 xi, .bool xw] 75)).heap.size (wr.alloc (.cells #[.string xk, .int .u64 xa, .int .u64 xi, .bool xw] 75)) W → W.cell? ⟨wr.heap.size, 1, none⟩ = some (.int .u64 xa) ∧ W.cell? ⟨wr.heap.size, 2, none⟩ = some (.int .u64 xi) ∧ W.cell? ⟨w.heap.size, 0, none⟩ = some (.int .u64 t.f0) ∧ W.cell? ⟨w.heap.size, 1, none⟩ = some (.int .u64 t.f1)) := ⟨fun W hW => by
                have h1 := (hW.block wr.heap.size (by simp)).trans HHB.out
                have h2 := (hW.block _ (Array.getElem?_eq_some_iff.1 HTQ.out).1).trans HTQ.out
                exact ⟨cell_row (cs := [.string xk, .int .u64 xa, .int .u64 xi, .bool xw]) h1 1, cell_row (cs := [.string xk, .int .u64 xa, .int .u64 xi, .bool xw]) h1 2, cell_row (cs := [.int .u64 t.f0, .int .u64 t.f1]) h2 0, cell_row (cs := [.int .u64 t.f0, .int .u64 t.f1]) h2 1⟩⟩
              have HGT : Aside0 (goAsk t key wt firm l [] = if hasTx firm ⟨xa, xi⟩ || !elderB t ⟨xa, xi⟩ then none else goAsk t key wt firm (l.drop (jj + 1)) (if hasTx out ⟨xa, xi⟩ then out else out ++ [⟨xa, xi⟩])) := ⟨by rw [← HGS.out, goAsk, q1]; rfl⟩
              have HE := Aside0.mk HEL
              clear HIN HEL HSX HSOx q1
              generalize hasTx firm ⟨xa, xi⟩ = st at *
              generalize elderB t ⟨xa, xi⟩ = el at *
              generalize hasTx out ⟨xa, xi⟩ = wo_ at *
              have HW0 := Aside0.mk (HB0.out.trans (BQ.out.mono HB0.out.size))
              cases st with
              | true =>
                have HRB : Aside0 (R = (l, [], 11)) := ⟨by rw [HAV.out, HGT.out]; rfl⟩
                go_wp2_with (first
                  | (go_at_call 76; refine (lock_inWay.calls _ _ _ _ _ _ _ _ _ _ HI.out).mono ?_; rintro e w5 ⟨rfl, hb5⟩; have HB5 := Aside0.mk (HAH.out.trans (hb5.mono HAH.out.size)); obtain ⟨hx1, hx2, ht5, ht6⟩ := HCELL.out _ hb5; have hlk := HLK.out _ HB5.out; have HW5 := Aside0.mk (HW0.out.trans (HB5.out.mono HW0.out.size)); clear hb5)
                  | (go_at_call 85; refine (HCL.out _ HW5.out).mono ?_; rintro e w7 ⟨v7, rfl, ho7, hb7⟩; have HO7 := Aside0.mk ho7; have HB7 := Aside0.mk hb7; clear ho7 hb7))
                go_ret3
                rw [HRB.out]
                exact ⟨v7, _, rfl, HO7.out.lower HW5.out.size, Own.nil _ _ _ _, HW5.out.trans (HB7.out.mono HW5.out.size)⟩
              | false =>
                cases el with
                | false =>
                  have HRB : Aside0 (R = (l, [], 11)) := ⟨by rw [HAV.out, HGT.out]; rfl⟩
                  go_wp2_with (first
                    | (go_at_call 76; refine (lock_inWay.calls _ _ _ _ _ _ _ _ _ _ HI.out).mono ?_; rintro e w5 ⟨rfl, hb5⟩; have HB5 := Aside0.mk (HAH.out.trans (hb5.mono HAH.out.size)); obtain ⟨hx1, hx2, ht5, ht6⟩ := HCELL.out _ hb5; have hlk := HLK.out _ HB5.out; have HW5 := Aside0.mk (HW0.out.trans (HB5.out.mono HW0.out.size)); clear hb5)
                    | (go_at_call 86; refine (lock_Elder.calls _ _ _ _ _ _ HE.out).mono ?_; rintro e w6 ⟨rfl, hb6⟩; have HW6 := Aside0.mk (HW5.out.trans (hb6.mono HW5.out.size)); clear hb6)
                    | (go_at_call 85; refine (HCL.out _ HW6.out).mono ?_; rintro e w7 ⟨v7, rfl, ho7, hb7⟩; have HO7 := Aside0.mk ho7; have HB7 := Aside0.mk hb7; clear ho7 hb7))
                  go_ret3
                  rw [HRB.out]
                  exact ⟨v7, _, rfl, HO7.out.lower HW6.out.size, Own.nil _ _ _ _, HW6.out.trans (HB7.out.mono HW6.out.size)⟩
                | true =>
                  have HCV : Aside0 (∀ W, Below wr.heap.size wr W → W.cell? ⟨wo.heap.size + 1, 0, none⟩ = some (.map (some wo.heap.size))) := ⟨fun W hW => (hW.cell (World.block_lt_of_cell? _ _ CV.out)).trans CV.out⟩
                  have hlimj : Aside0 (jj < maxLen) := ⟨by unfold maxLen; omega⟩
                  cases wo_ with
                  | true =>
                    go_wp2_with (first
                      | (go_at_call 76; refine (lock_inWay.calls _ _ _ _ _ _ _ _ _ _ HI.out).mono ?_; rintro e w5 ⟨rfl, hb5⟩; have HB5 := Aside0.mk (HAH.out.trans (hb5.mono HAH.out.size)); have HC5 := Aside0.mk hb5; obtain ⟨hx1, hx2, ht5, ht6⟩ := HCELL.out _ hb5; have hlk := HLK.out _ HB5.out; clear hb5)
                      | (go_at_call 86; refine (lock_Elder.calls _ _ _ _ _ _ HE.out).mono ?_; rintro e w6 ⟨rfl, hb6⟩; have HB6 := Aside0.mk (HB5.out.trans (hb6.mono HB5.out.size)); obtain ⟨hy1, hy2, hy5, hy6⟩ := HCELL.out _ (HC5.out.trans (hb6.mono HC5.out.size)); have hcv := HCV.out _ HB6.out; have hlw := HLW.out _ HB6.out; clear hb6))
                    go_roundg (l.length - (jj + 1))
                    case measure => omega
                    case rel =>
                      have hs6 := HB6.out.size
                      exact ⟨jj + 1, out, by omega, by omega, by go_num, ⟨BQ.out.trans (HB6.out.mono BQ.out.size)⟩, ⟨BS.out.kept HB6.out⟩, ⟨(BO.out.kept HB6.out).more (by omega)⟩, ⟨HCV.out _ HB6.out⟩, ⟨OW.out.below HB6.out⟩, ⟨by rw [HGT.out]; rfl⟩, ⟨by have := HO.out.1; omega, HO.out.2⟩, ⟨by have := HZQ.out; omega⟩⟩
                  | false =>
                    go_wp2_with (first
                      | (go_at_call 76; refine (lock_inWay.calls _ _ _ _ _ _ _ _ _ _ HI.out).mono ?_; rintro e w5 ⟨rfl, hb5⟩; have HB5 := Aside0.mk (HAH.out.trans (hb5.mono HAH.out.size)); have HC5 := Aside0.mk hb5; obtain ⟨hx1, hx2, ht5, ht6⟩ := HCELL.out _ hb5; have hlk := HLK.out _ HB5.out; clear hb5)
                      | (go_at_call 86; refine (lock_Elder.calls _ _ _ _ _ _ HE.out).mono ?_; rintro e w6 ⟨rfl, hb6⟩; have HB6 := Aside0.mk (HB5.out.trans (hb6.mono HB5.out.size)); obtain ⟨hy1, hy2, hy5, hy6⟩ := HCELL.out _ (HC5.out.trans (hb6.mono HC5.out.size)); have hcv := HCV.out _ HB6.out; have hlw := HLW.out _ HB6.out; have BO6 := Aside0.mk (BO.out.kept HB6.out); clear hb6)
                      | (at_mapUpdate; refine wpList_put_bool _ rfl _ _ _ 76 rfl txKeyed Try.underlying76 txLit_inj txLit_key2 rfl BO6.out hlimj.out _ _ true rfl rfl HK.out ?_; intro w7 hM7 hg7; have HM7 := Aside0.mk hM7; have hz1 : w7.cell? ⟨wr.heap.size, 1, none⟩ = some (.int .u64 xa) := hg7.cell hy1 (someNe (by have := HZQ.out; dsimp only; omega)); have hz2 : w7.cell? ⟨wr.heap.size, 2, none⟩ = some (.int .u64 xi) := hg7.cell hy2 (someNe (by have := HZQ.out; dsimp only; omega)); have OW7 := Aside0.mk ((OW.out.below HB6.out).kept hg7 (fun k e => someNe (by have := OW.out.base _ e; omega))); have HG7 := Aside0.mk hg7; clear hM7 hg7)
                      | (at_builtin; refine own_push rfl (.tmp 86) (.tmp 89) rfl Try.underlying86 infoTx rfl (by decide) (by decide) rfl rfl (c := [.int .u64 xa, .int .u64 xi]) ⟨rfl, by simp [Value.oneCell']⟩ OW7.out (by have := HG7.out.size; have := HB6.out.size; have := HZQ.out; omega) (by rw [List.length_map]; have := HO.out.1; have := HLL.out; omega) ?_; intro v8 w8 ho8 hg8; have HO8 := Aside0.mk ho8; have HG8 := Aside0.mk hg8; clear ho8 hg8))
                    go_roundg (l.length - (jj + 1))
                    case measure => omega
                    case rel =>
                      have hs6 := HB6.out.size
                      have hs7 := HG7.out.size
                      have hs8 := HG8.out.size
                      have hzq := HZQ.out
                      have hso := HSO.out
                      have hzw := HZW.out
                      have hob := fun k e => OW.out.base k e
                      have hz0 := HZ1.out
                      exact ⟨jj + 1, out ++ [⟨xa, xi⟩], by omega, by omega, by go_num, ⟨gob_below (gob_below (BQ.out.trans (HB6.out.mono BQ.out.size)) HG7.out (by have := BQ.out.size; omega) (fun k e => by cases e; omega)) HG8.out (by have := BQ.out.size; omega) (fun k e => by have := hob k e; omega)⟩, ⟨((BS.out.kept HB6.out).grown HG7.out (someNe (by first | omega | (dsimp only; omega)))).grown HG8.out (by intro e; have := hob _ e.symm; omega)⟩, ⟨(by have := HM7.out.grown HG8.out (by intro e; have := hob _ e.symm; omega); rw [HSN.out] at this; exact this)⟩, ⟨HG8.out.cell (HG7.out.cell (HCV.out _ HB6.out) (someNe (show wo.heap.size + 1 ≠ wo.heap.size by omega))) (by intro e; have h9 : wo.heap.size + 2 ≤ wo.heap.size + 1 := hob _ e.symm; omega)⟩, ⟨by rw [List.map_append]; exact HO8.out⟩, ⟨by rw [HGT.out]; rfl⟩, ⟨by rw [List.length_append]; have := HO.out.1; simp; omega, fun y hy => by
                        rcases List.mem_append.1 hy with h | h
                        · exact HO.out.2 y h
                        · rw [List.mem_singleton.1 h]; exact HX.out⟩, ⟨by omega⟩⟩
          · have hljz : ¬ (jj : Int) < (l.length : Int) := by omega
            obtain rfl : jj = l.length := by omega
            have HFIN : Aside0 (R = askFin l t key wt (some out)) := ⟨by rw [HAV.out, ← GA.out, List.drop_length]; rfl⟩
            have HW0 := Aside0.mk (HB0.out.trans (BQ.out.mono HB0.out.size))
            have HHK := Aside0.mk (HOK.out)
            go_wp2_with (go_at_call 85; refine (HCL.out _ HW0.out).mono ?_; rintro e w9 ⟨v9, rfl, ho9, hb9⟩; have HO9 := Aside0.mk ho9; have HB9 := Aside0.mk hb9; clear ho9 hb9)
            refine (DeleteFuncHold (isOut out) 88 #[.pointer (some ⟨wo.heap.size + 1, 0, none⟩)] (enters_of Try.func88 (by kernel_rfl) rfl) v9 (l.map enc75) _ w9 HO9.out HB9.out.size (fun W c hg hc => by
              obtain ⟨x, hx, rfl⟩ := List.mem_map.1 hc
              have hne1 : some wo.heap.size ≠ v9.ownBlock := fun e => by have := HO9.out.base _ e.symm; have := HZQ.out; omega
              have hne2 : some (wo.heap.size + 1) ≠ v9.ownBlock := fun e => by have := HO9.out.base _ e.symm; have := HZQ.out; omega
              exact lockAsk1 (wo.heap.size + 1) wo.heap.size _ out x W (HHK.out x hx) HO.out.2 (hg.cell ((HB9.out.cell (World.block_lt_of_cell? _ _ CV.out)).trans CV.out) hne2) ((BO.out.kept HB9.out).grown hg hne1))).mono ?_
            rintro e w10 ⟨v10, rfl, ho10, hg10⟩
            rw [raw_filterO] at ho10
            have HO10 := Aside0.mk ho10
            have HB10 : Aside0 (Below wr.heap.size wr w10) := ⟨HB9.out.grown hg10 HB9.out.size (fun k e => HO9.out.base k e)⟩
            have OW10 := Aside0.mk (OW.out.below HB10.out)
            have HW10 := Aside0.mk (HW0.out.trans (HB10.out.mono HW0.out.size))
            have htq := ((BQ.out.trans (HB10.out.mono BQ.out.size)).block w.heap.size HZ0.out).trans HTX.out
            have ht0 : w10.cell? ⟨w.heap.size, 0, none⟩ = some (.int .u64 t.f0) := cell_row (cs := [.int .u64 t.f0, .int .u64 t.f1]) htq 0
            have ht1 : w10.cell? ⟨w.heap.size, 1, none⟩ = some (.int .u64 t.f1) := cell_row (cs := [.int .u64 t.f0, .int .u64 t.f1]) htq 1
            have hbase : Aside0 (w.heap.size ≤ wr.heap.size ∧ w.heap.size ≤ wo.heap.size + 2) := ⟨by have := HW0.out.size; have := HZW.out; have := HZ0.out; exact ⟨by omega, by omega⟩⟩
            have hlen : Aside0 ((restV l out).length ≤ l.length) := ⟨List.length_filter_le _ _⟩
            clear ho10 hg10 htq
            have HOFM := Aside0.mk (lockOf_sl v10 (restV l out) t key w10 (flat75.ofsl HO10.out.sl))
            have HUP : Aside0 (askFin l t key wt (some out) = if 0 ≤ findI (isHK t key) (restV l out) then (askUp (restV l out) t key, out, 0) else if 48 ≤ (restV l out).length then (l, [], 5) else (restV l out ++ [⟨key, t, wt⟩], out, 0)) := ⟨rfl⟩
            by_cases hup : 0 ≤ findI (isHK t key) (restV l out)
            · obtain ⟨im, him, hfim⟩ := findI_range _ _ hup
              have HRU : Aside0 (R = ((restV l out).set im ⟨((restV l out)[im]!).f0, ((restV l out)[im]!).f1, true⟩, out, 0)) := ⟨by
                rw [HFIN.out, HUP.out, if_pos hup]; unfold askUp atI; rw [hfim]; rfl⟩
              have HSE := Aside0.mk (set_enc (restV l out) im him)
              rw [hfim] at HOFM
              clear hup hfim HUP
              generalize restV l out = m at *
              have him2 : im < (m.map enc75).length := by rw [List.length_map]; exact him
              rcases HO10.out.cases with ⟨_, he⟩ | ⟨g, cap, cur, rfl, hbg, hgw, hh, hcp, hcm, hcl⟩
              · exfalso
                rw [he] at him2
                simp at him2
              · have hiz3 : (0 : Int) ≤ (im : Int) := by omega
                have hiz4 : (im : Int) < (m.length : Int) := by omega
                have HG0 := HO10.out
                rw [List.length_map] at HOFM HG0
                have hgt := HG0.get im 3 him2 (by decide)
                have hst := HG0.store im 3 him2 (by decide) (.bool true) rfl
                have HST := Aside0.mk hst
                have HGT3 := Aside0.mk hgt
                have HBG := Aside0.mk hbg
                have HGW := Aside0.mk hgw
                clear hh hcl hbg hgw hcm hst hgt
                have hm2 : m.length ≤ 9223372036854775807 := by have := hlen.out; omega
                go_wp2_with (go_at_call 84; refine (HOFM.out).mono ?_; rintro e w11 ⟨rfl, hb11⟩; have HB11 := Aside0.mk hb11; have hq1 := (hb11.cell (World.block_lt_of_cell? _ _ HGT3.out.1)).trans HGT3.out.1; have hq2 := (hb11.frozen (p := ⟨g, im * 4 + 3, none⟩) HGW.out).trans HGT3.out.2.1; clear hb11)
                go_ret3
                have HG1 := HG0.below HB11.out
                have hst := HG1.store im 3 him2 (by decide) (.bool true) rfl
                have hol := OW.out.lt
                rw [HRU.out]
                refine ⟨_, _, rfl, ?_, ((OW10.out.below HB11.out).kept hst.2 (fun k e => someNe (by have := hol k e; have := HBG.out; omega))).lower hbase.out.2, (HW10.out.trans (HB11.out.mono HW10.out.size)).grown hst.2 (by have := HW10.out.size; have := HB11.out.size; omega) (fun k e => by cases e; have := hbase.out.1; have := HBG.out; omega)⟩
                have h9 := hst.1
                rw [HSE.out] at h9
                exact h9.lower hbase.out.1
            · have hneg := findI_neg _ _ hup
              rw [hneg] at HOFM
              have hlm : (((restV l out).map enc75).length) = (restV l out).length := List.length_map _
              obtain ⟨MA, mc, hv10, hmc, hMC⟩ := HO10.out.sl
              rw [hlm] at hv10
              have HRN : Aside0 (R = if 48 ≤ (restV l out).length then (l, [], 5) else (restV l out ++ [⟨key, t, wt⟩], out, 0)) := ⟨by rw [HFIN.out, HUP.out, if_neg hup]⟩
              clear hup hneg HUP hlm hmc hMC
              generalize restV l out = m at *
              subst hv10
              have hm2 : m.length ≤ 9223372036854775807 := by have := hlen.out; omega
              by_cases h48 : 48 ≤ m.length
              · have h48z : (48 : Int) ≤ (m.length : Int) := by omega
                have HRB : Aside0 (R = (l, [], 5)) := ⟨by rw [HRN.out, if_pos h48]⟩
                go_wp2_with (first
                  | (go_at_call 84; refine (HOFM.out).mono ?_; rintro e w11 ⟨rfl, hb11⟩; have HW11 := Aside0.mk (HW10.out.trans (hb11.mono HW10.out.size)); clear hb11)
                  | (go_at_call 85; refine (HCL.out _ HW11.out).mono ?_; rintro e w12 ⟨v12, rfl, ho12, hb12⟩; have HO12 := Aside0.mk ho12; have HB12 := Aside0.mk hb12; clear ho12 hb12))
                go_ret3
                rw [HRB.out]
                exact ⟨v12, _, rfl, HO12.out.lower HW11.out.size, Own.nil _ _ _ _, HW11.out.trans (HB12.out.mono HW11.out.size)⟩
              · have h48z : ¬ (48 : Int) ≤ (m.length : Int) := by omega
                have HRB : Aside0 (R = (m ++ [⟨key, t, wt⟩], out, 0)) := ⟨by rw [HRN.out, if_neg h48]⟩
                have H48 := Aside0.mk h48
                go_wp2_with (first
                  | (go_at_call 84; refine (HOFM.out).mono ?_; rintro e w11 ⟨rfl, hb11⟩; have HB11 := Aside0.mk hb11; have ht2 : w11.cell? ⟨w.heap.size, 0, none⟩ = some (.int .u64 t.f0) := (hb11.cell (World.block_lt_of_cell? _ _ ht0)).trans ht0; have ht3 : w11.cell? ⟨w.heap.size, 1, none⟩ = some (.int .u64 t.f1) := (hb11.cell (World.block_lt_of_cell? _ _ ht1)).trans ht1; clear hb11)
                  | (at_builtin; refine own_push rfl (.tmp 113) (.tmp 118) rfl Try.underlying23 infoHold rfl (by decide) (by decide) rfl rfl (c := [.string key, .int .u64 t.f0, .int .u64 t.f1, .bool wt]) ⟨rfl, by simp [Value.oneCell']⟩ (HO10.out.below HB11.out) (by have := HB10.out.size; have := HB11.out.size; omega) (by rw [List.length_map]; have := H48.out; omega) ?_; intro v12 w12 ho12 hg12; have HO12 := Aside0.mk ho12; have HG12 := Aside0.mk hg12; clear ho12 hg12))
                go_ret3
                have hol := OW.out.lt
                have hoh := HO10.out.base
                rw [HRB.out]
                refine ⟨v12, _, rfl, ?_, ((OW10.out.below HB11.out).kept HG12.out (fun k e e2 => by have := hol k e; have := hoh k e2.symm; omega)).lower hbase.out.2, (HW10.out.trans (HB11.out.mono HW10.out.size)).grown HG12.out (by have := HW10.out.size; have := HB11.out.size; omega) (fun k e => by have := hoh k e; have := hbase.out.1; omega)⟩
                rw [List.map_append]
                exact HO12.out.lower hbase.out.1
  · rw [hfi] at HOF
    obtain ⟨b, o, rfl, _, _, _, hcw⟩ := holdCells HR.out ii hii
    rw [hfw] at hcw
    have HCW := Aside0.mk hcw
    have hiz : (0 : Int) ≤ (ii : Int) := by omega
    have hiz2 : (ii : Int) < (l.length : Int) := by omega
    clear hfi HCASE hcw hfw
    go_enter Try.func54, Try.ntmps54
    go_wp2_with (first
      | (go_at_call 84; refine (HOF.out _ HB0.out).mono ?_; rintro e w1 ⟨rfl, hb1⟩; have HB1 := Aside0.mk hb1; have hcw1 := ((HB0.out.trans (hb1.mono HB0.out.size)).cell (World.block_lt_of_cell? _ _ HCW.out)).trans HCW.out; clear hb1))
    clear hcw1 HCW hiz hiz2 hii
    generalize w.alloc (.cells #[.int .u64 t.f0, .int .u64 t.f1] 30) = W0 at *
    have HZ0 : Aside0 (w.heap.size < W0.heap.size) := ⟨(Array.getElem?_eq_some_iff.1 HTX.out).1⟩
    have HZ1 := Aside0.mk HB1.out.size
    go_loopg [45] firm.length (fun gg s45 wa => ∃ kk : Nat, kk ≤ firm.length ∧ firm.length - kk ≤ gg ∧ s45 = .int .i64 kk ∧ Aside0 (Below W0.heap.size W0 wa) ∧ Aside0 (BoolMap txLit 30 wa w1.heap.size kk (setOfTx (firm.take kk))))
    case atStart => exact ⟨0, Nat.zero_le _, by omega, rfl, ⟨HB1.out.alloc HB1.out.size _⟩, ⟨BoolMap.made txLit 30 (World.ownsMap_made _ _ _ _)⟩⟩
    case round =>
      obtain ⟨kk, hkk, hg, rfl, BW, BM⟩ := hrel
      by_cases hlt : kk < firm.length
      · have hltz : (kk : Int) < (firm.length : Int) := by omega
        obtain ⟨fb, fo, rfl, hc0_, hc1_⟩ := txCells2 (Kd.C_below (Kd.C_below HRF.out HB0.out) (BW.out.mono (Nat.le_refl _))) kk hlt
        have HT := Aside0.mk (takeBang firm kk hlt)
        have HX := Aside0.mk (HOKF.out _ (bangMem firm kk hlt))
        have hlim : Aside0 (kk < maxLen) := ⟨by unfold maxLen; omega⟩
        have hbl := Aside0.mk (BM.out.lt)
        generalize firm[kk]! = x at *
        have HK := Aside0.mk (txKey HX.out)
        obtain ⟨x0, x1⟩ := x
        dsimp only at hc0_ hc1_ HK
        have BM1 := Aside0.mk (BM.out.below ((Below.refl wr.heap.size wr).alloc (Nat.le_refl _) (.cells #[.int .u64 x0, .int .u64 x1] 30)) hbl.out)
        go_wp2_with (at_mapUpdate; refine wpList_put_bool _ rfl _ _ _ 76 rfl txKeyed Try.underlying76 txLit_inj txLit_key2 rfl BM1.out hlim.out _ _ true rfl rfl HK.out ?_; intro w2 hM2 hg2; have HM2 := Aside0.mk hM2; have HG2 := Aside0.mk hg2; clear hM2 hg2)
        go_roundg (firm.length - (kk + 1))
        case measure => omega
        case rel => exact ⟨kk + 1, by omega, by omega, by go_num, ⟨(BW.out.alloc BW.out.size _).grown HG2.out (by simp; have := BW.out.size; omega) (fun k e => by cases e; exact HZ1.out)⟩, ⟨by rw [HT.out, ← setOf_snoc]; exact HM2.out⟩⟩
      · have hltz : ¬ (kk : Int) < (firm.length : Int) := by omega
        obtain rfl : kk = firm.length := by omega
        rw [List.take_length] at BM
        obtain ⟨wo, rfl⟩ : ∃ wo : World, wo = wr := ⟨_, rfl⟩
        have HSF := Aside0.mk (fun (y : S30) (hy : okTx y) => setOf_has (l := firm) HOKF.out hy)
        have HBO := Aside0.mk (((Below.refl wo.heap.size wo).alloc (Nat.le_refl _) (.map #[] 0)).alloc (by simp) (.cells #[.map (some wo.heap.size)] 76))
        have HSO : Aside0 (w1.heap.size < wo.heap.size) := ⟨BM.out.lt⟩
        have HZW := Aside0.mk BW.out.size
        go_wp2
        go_loopg [18, 55] l.length (fun gg s18 s55 wq => ∃ (jj : Nat) (out : List S30), jj ≤ l.length ∧ l.length - jj ≤ gg ∧ s55 = .int .i64 jj ∧ Aside0 (Below W0.heap.size W0 wq) ∧ Aside0 (BoolMap txLit 30 wq w1.heap.size firm.length (setOfTx firm)) ∧ Aside0 (BoolMap txLit 30 wq wo.heap.size jj (setOfTx out)) ∧ Aside0 (wq.cell? ⟨wo.heap.size + 1, 0, none⟩ = some (.map (some wo.heap.size))) ∧ Aside0 (Own 2 30 wq (wo.heap.size + 2) s18 (out.map enc30)) ∧ Aside0 (goAsk t key true firm (l.drop jj) out = goAsk t key true firm l []) ∧ Aside0 (out.length ≤ jj ∧ ∀ y ∈ out, okTx y) ∧ Aside0 (wo.heap.size + 2 ≤ wq.heap.size))
        case atStart =>
          refine ⟨0, [], Nat.zero_le _, by omega, rfl, ⟨(BW.out.alloc BW.out.size _).alloc (by simp; have := HZW.out; omega) _⟩, ⟨BM.out.kept HBO.out⟩, ⟨?_⟩, ⟨?_⟩, ⟨Own.nil _ _ _ _⟩, ⟨rfl⟩, ⟨Nat.le_refl _, by simp⟩, ⟨by simp⟩⟩
          · exact (BoolMap.made txLit 30 (World.ownsMap_made _ _ _ _)).kept ((Below.refl _ _).alloc (Nat.le_refl _) _)
          · have := cell_row (cs := [.map (some wo.heap.size)]) (heap_alloc_new (wo.alloc (.map #[] 0)) (.cells #[.map (some wo.heap.size)] 76)) 0
            rwa [World.size_alloc] at this
        case round =>
          obtain ⟨jj, out, hjj, hgj, rfl, BQ, BS, BO, CV, OW, GA, HO, HZQ⟩ := hrel
          by_cases hlj : jj < l.length
          · have hljz : (jj : Int) < (l.length : Int) := by omega
            obtain ⟨lb, lo, hA, hd0_, hd1_, hd2_, hd3_⟩ := holdCells (Kd.C_below (Kd.C_below HR.out HB0.out) (BQ.out.mono (Nat.le_refl _))) jj hlj
            cases hA
            have HJ := Aside0.mk (dropBang l jj hlj)
            have HX := Aside0.mk (HOK.out _ (bangMem l jj hlj))
            generalize l[jj]! = x at *
            have HIN := inWay_val x t key true
            have HGS : Aside0 (goAsk t key true firm (x :: l.drop (jj + 1)) out = goAsk t key true firm l []) := ⟨by rw [← HJ.out]; exact GA.out⟩
            have HK := Aside0.mk (txKey HX.out)
            have HEL := elder_val t x.f1
            have HSX := HSF.out x.f1 HX.out
            have HSOx := setOf_has HO.out.2 HX.out
            have HSN := Aside0.mk (setOf_snoc out x.f1)
            obtain ⟨xk, ⟨xa, xi⟩, xw⟩ := x
            dsimp only at hd0_ hd1_ hd2_ hd3_ HIN HK HEL HSX HSOx
            clear HJ
            have HAH := Aside0.mk ((Below.refl wr.heap.size wr).alloc (Nat.le_refl _) (.cells #[.string xk, .int .u64 xa, .int .u64 xi, .bool xw] 75))
            have HHB := Aside0.mk (heap_alloc_new wr (.cells #[.string xk, .int .u64 xa, .int .u64 xi, .bool xw] 75))
            have htq := (BQ.out.block w.heap.size HZ0.out).trans HTX.out
            have ht0 := (HAH.out.cell (World.block_lt_of_cell? _ _ (cell_row (cs := [.int .u64 t.f0, .int .u64 t.f1]) htq 0))).trans (cell_row (cs := [.int .u64 t.f0, .int .u64 t.f1]) htq 0)
            have ht1 := (HAH.out.cell (World.block_lt_of_cell? _ _ (cell_row (cs := [.int .u64 t.f0, .int .u64 t.f1]) htq 1))).trans (cell_row (cs := [.int .u64 t.f0, .int .u64 t.f1]) htq 1)
            have HTQ := Aside0.mk (((HAH.out.block _ (Array.getElem?_eq_some_iff.1 htq).1)).trans htq)
            clear htq
            cases q1 : inWayB ⟨xk, ⟨xa, xi⟩, xw⟩ t key true with
            | false =>
              rw [q1] at HIN
              have HI := Aside0.mk HIN
              have HGN : Aside0 (goAsk t key true firm (l.drop (jj + 1)) out = goAsk t key true firm l []) := ⟨by rw [← HGS.out, goAsk, q1]; rfl⟩
              clear HIN HEL HSX HSOx q1
              go_wp2_with (go_at_call 76; refine (lock_inWay.calls _ _ _ _ _ _ _ _ _ _ HI.out).mono ?_; rintro e w5 ⟨rfl, hb5⟩; have HB5 := Aside0.mk (HAH.out.trans (hb5.mono HAH.out.size)); clear hb5)
              go_roundg (l.length - (jj + 1))
              case measure => omega
              case rel =>
                have hs5 := HB5.out.size
                exact ⟨jj + 1, out, by omega, by omega, by go_num, ⟨BQ.out.trans (HB5.out.mono BQ.out.size)⟩, ⟨BS.out.kept HB5.out⟩, ⟨(BO.out.kept HB5.out).more (by omega)⟩, ⟨(HB5.out.cell (World.block_lt_of_cell? _ _ CV.out)).trans CV.out⟩, ⟨OW.out.below HB5.out⟩, HGN, ⟨by have := HO.out.1; omega, HO.out.2⟩, ⟨by have := HZQ.out; omega⟩⟩
            | true =>
              rw [q1] at HIN
              have HI := Aside0.mk HIN
              have HLK : Aside0 (∀ W, Below wr.heap.size wr W → (Instr.lookup 76 (.map (some w1.heap.size)) (.agg #[.int .u64 xa, .int .u64 xi]) false).run Try.prog W = .ok (.bool (hasTx firm ⟨xa, xi⟩)) W) := ⟨fun W hW => by
                have := (BS.out.kept hW).lookup txKeyed Try.underlying76 HK.out
                rw [HSX] at this
                exact this⟩
              have HLW : Aside0 (∀ W, Below wr.heap.size wr W → (Instr.lookup 76 (.map (some wo.heap.size)) (.agg #[.int .u64 xa, .int .u64 xi]) false).run Try.prog W = .ok (.bool (hasTx out ⟨xa, xi⟩)) W) := ⟨fun W hW => by
                have := (BO.out.kept hW).lookup txKeyed Try.underlying76 HK.out
                rw [HSOx] at this
                exact this⟩
              have HCELL : Aside0 (∀ W, Below (wr.alloc (.cells #[.string xk, .int .u64 xa, .int .u64 xi, .bool xw] 75)).heap.size (wr.alloc (.cells #[.string xk, .int .u64 xa, .int .u64 xi, .bool xw] 75)) W → W.cell? ⟨wr.heap.size, 1, none⟩ = some (.int .u64 xa) ∧ W.cell? ⟨wr.heap.size, 2, none⟩ = some (.int .u64 xi) ∧ W.cell? ⟨w.heap.size, 0, none⟩ = some (.int .u64 t.f0) ∧ W.cell? ⟨w.heap.size, 1, none⟩ = some (.int .u64 t.f1)) := ⟨fun W hW => by
                have h1 := (hW.block wr.heap.size (by simp)).trans HHB.out
                have h2 := (hW.block _ (Array.getElem?_eq_some_iff.1 HTQ.out).1).trans HTQ.out
                exact ⟨cell_row (cs := [.string xk, .int .u64 xa, .int .u64 xi, .bool xw]) h1 1, cell_row (cs := [.string xk, .int .u64 xa, .int .u64 xi, .bool xw]) h1 2, cell_row (cs := [.int .u64 t.f0, .int .u64 t.f1]) h2 0, cell_row (cs := [.int .u64 t.f0, .int .u64 t.f1]) h2 1⟩⟩
              have HGT : Aside0 (goAsk t key true firm l [] = if hasTx firm ⟨xa, xi⟩ || !elderB t ⟨xa, xi⟩ then none else goAsk t key true firm (l.drop (jj + 1)) (if hasTx out ⟨xa, xi⟩ then out else out ++ [⟨xa, xi⟩])) := ⟨by rw [← HGS.out, goAsk, q1]; rfl⟩
              have HE := Aside0.mk HEL
              clear HIN HEL HSX HSOx q1
              generalize hasTx firm ⟨xa, xi⟩ = st at *
              generalize elderB t ⟨xa, xi⟩ = el at *
              generalize hasTx out ⟨xa, xi⟩ = wo_ at *
              have HW0 := Aside0.mk (HB0.out.trans (BQ.out.mono HB0.out.size))
              cases st with
              | true =>
                have HRB : Aside0 (R = (l, [], 11)) := ⟨by rw [HAV.out, HGT.out]; rfl⟩
                go_wp2_with (first
                  | (go_at_call 76; refine (lock_inWay.calls _ _ _ _ _ _ _ _ _ _ HI.out).mono ?_; rintro e w5 ⟨rfl, hb5⟩; have HB5 := Aside0.mk (HAH.out.trans (hb5.mono HAH.out.size)); obtain ⟨hx1, hx2, ht5, ht6⟩ := HCELL.out _ hb5; have hlk := HLK.out _ HB5.out; have HW5 := Aside0.mk (HW0.out.trans (HB5.out.mono HW0.out.size)); clear hb5)
                  | (go_at_call 85; refine (HCL.out _ HW5.out).mono ?_; rintro e w7 ⟨v7, rfl, ho7, hb7⟩; have HO7 := Aside0.mk ho7; have HB7 := Aside0.mk hb7; clear ho7 hb7))
                go_ret3
                rw [HRB.out]
                exact ⟨v7, _, rfl, HO7.out.lower HW5.out.size, Own.nil _ _ _ _, HW5.out.trans (HB7.out.mono HW5.out.size)⟩
              | false =>
                cases el with
                | false =>
                  have HRB : Aside0 (R = (l, [], 11)) := ⟨by rw [HAV.out, HGT.out]; rfl⟩
                  go_wp2_with (first
                    | (go_at_call 76; refine (lock_inWay.calls _ _ _ _ _ _ _ _ _ _ HI.out).mono ?_; rintro e w5 ⟨rfl, hb5⟩; have HB5 := Aside0.mk (HAH.out.trans (hb5.mono HAH.out.size)); obtain ⟨hx1, hx2, ht5, ht6⟩ := HCELL.out _ hb5; have hlk := HLK.out _ HB5.out; have HW5 := Aside0.mk (HW0.out.trans (HB5.out.mono HW0.out.size)); clear hb5)
                    | (go_at_call 86; refine (lock_Elder.calls _ _ _ _ _ _ HE.out).mono ?_; rintro e w6 ⟨rfl, hb6⟩; have HW6 := Aside0.mk (HW5.out.trans (hb6.mono HW5.out.size)); clear hb6)
                    | (go_at_call 85; refine (HCL.out _ HW6.out).mono ?_; rintro e w7 ⟨v7, rfl, ho7, hb7⟩; have HO7 := Aside0.mk ho7; have HB7 := Aside0.mk hb7; clear ho7 hb7))
                  go_ret3
                  rw [HRB.out]
                  exact ⟨v7, _, rfl, HO7.out.lower HW6.out.size, Own.nil _ _ _ _, HW6.out.trans (HB7.out.mono HW6.out.size)⟩
                | true =>
                  have HCV : Aside0 (∀ W, Below wr.heap.size wr W → W.cell? ⟨wo.heap.size + 1, 0, none⟩ = some (.map (some wo.heap.size))) := ⟨fun W hW => (hW.cell (World.block_lt_of_cell? _ _ CV.out)).trans CV.out⟩
                  have hlimj : Aside0 (jj < maxLen) := ⟨by unfold maxLen; omega⟩
                  cases wo_ with
                  | true =>
                    go_wp2_with (first
                      | (go_at_call 76; refine (lock_inWay.calls _ _ _ _ _ _ _ _ _ _ HI.out).mono ?_; rintro e w5 ⟨rfl, hb5⟩; have HB5 := Aside0.mk (HAH.out.trans (hb5.mono HAH.out.size)); have HC5 := Aside0.mk hb5; obtain ⟨hx1, hx2, ht5, ht6⟩ := HCELL.out _ hb5; have hlk := HLK.out _ HB5.out; clear hb5)
                      | (go_at_call 86; refine (lock_Elder.calls _ _ _ _ _ _ HE.out).mono ?_; rintro e w6 ⟨rfl, hb6⟩; have HB6 := Aside0.mk (HB5.out.trans (hb6.mono HB5.out.size)); obtain ⟨hy1, hy2, hy5, hy6⟩ := HCELL.out _ (HC5.out.trans (hb6.mono HC5.out.size)); have hcv := HCV.out _ HB6.out; have hlw := HLW.out _ HB6.out; clear hb6))
                    go_roundg (l.length - (jj + 1))
                    case measure => omega
                    case rel =>
                      have hs6 := HB6.out.size
                      exact ⟨jj + 1, out, by omega, by omega, by go_num, ⟨BQ.out.trans (HB6.out.mono BQ.out.size)⟩, ⟨BS.out.kept HB6.out⟩, ⟨(BO.out.kept HB6.out).more (by omega)⟩, ⟨HCV.out _ HB6.out⟩, ⟨OW.out.below HB6.out⟩, ⟨by rw [HGT.out]; rfl⟩, ⟨by have := HO.out.1; omega, HO.out.2⟩, ⟨by have := HZQ.out; omega⟩⟩
                  | false =>
                    go_wp2_with (first
                      | (go_at_call 76; refine (lock_inWay.calls _ _ _ _ _ _ _ _ _ _ HI.out).mono ?_; rintro e w5 ⟨rfl, hb5⟩; have HB5 := Aside0.mk (HAH.out.trans (hb5.mono HAH.out.size)); have HC5 := Aside0.mk hb5; obtain ⟨hx1, hx2, ht5, ht6⟩ := HCELL.out _ hb5; have hlk := HLK.out _ HB5.out; clear hb5)
                      | (go_at_call 86; refine (lock_Elder.calls _ _ _ _ _ _ HE.out).mono ?_; rintro e w6 ⟨rfl, hb6⟩; have HB6 := Aside0.mk (HB5.out.trans (hb6.mono HB5.out.size)); obtain ⟨hy1, hy2, hy5, hy6⟩ := HCELL.out _ (HC5.out.trans (hb6.mono HC5.out.size)); have hcv := HCV.out _ HB6.out; have hlw := HLW.out _ HB6.out; have BO6 := Aside0.mk (BO.out.kept HB6.out); clear hb6)
                      | (at_mapUpdate; refine wpList_put_bool _ rfl _ _ _ 76 rfl txKeyed Try.underlying76 txLit_inj txLit_key2 rfl BO6.out hlimj.out _ _ true rfl rfl HK.out ?_; intro w7 hM7 hg7; have HM7 := Aside0.mk hM7; have hz1 : w7.cell? ⟨wr.heap.size, 1, none⟩ = some (.int .u64 xa) := hg7.cell hy1 (someNe (by have := HZQ.out; dsimp only; omega)); have hz2 : w7.cell? ⟨wr.heap.size, 2, none⟩ = some (.int .u64 xi) := hg7.cell hy2 (someNe (by have := HZQ.out; dsimp only; omega)); have OW7 := Aside0.mk ((OW.out.below HB6.out).kept hg7 (fun k e => someNe (by have := OW.out.base _ e; omega))); have HG7 := Aside0.mk hg7; clear hM7 hg7)
                      | (at_builtin; refine own_push rfl (.tmp 86) (.tmp 89) rfl Try.underlying86 infoTx rfl (by decide) (by decide) rfl rfl (c := [.int .u64 xa, .int .u64 xi]) ⟨rfl, by simp [Value.oneCell']⟩ OW7.out (by have := HG7.out.size; have := HB6.out.size; have := HZQ.out; omega) (by rw [List.length_map]; have := HO.out.1; have := HLL.out; omega) ?_; intro v8 w8 ho8 hg8; have HO8 := Aside0.mk ho8; have HG8 := Aside0.mk hg8; clear ho8 hg8))
                    go_roundg (l.length - (jj + 1))
                    case measure => omega
                    case rel =>
                      have hs6 := HB6.out.size
                      have hs7 := HG7.out.size
                      have hs8 := HG8.out.size
                      have hzq := HZQ.out
                      have hso := HSO.out
                      have hzw := HZW.out
                      have hob := fun k e => OW.out.base k e
                      have hz0 := HZ1.out
                      exact ⟨jj + 1, out ++ [⟨xa, xi⟩], by omega, by omega, by go_num, ⟨gob_below (gob_below (BQ.out.trans (HB6.out.mono BQ.out.size)) HG7.out (by have := BQ.out.size; omega) (fun k e => by cases e; omega)) HG8.out (by have := BQ.out.size; omega) (fun k e => by have := hob k e; omega)⟩, ⟨((BS.out.kept HB6.out).grown HG7.out (someNe (by first | omega | (dsimp only; omega)))).grown HG8.out (by intro e; have := hob _ e.symm; omega)⟩, ⟨(by have := HM7.out.grown HG8.out (by intro e; have := hob _ e.symm; omega); rw [HSN.out] at this; exact this)⟩, ⟨HG8.out.cell (HG7.out.cell (HCV.out _ HB6.out) (someNe (show wo.heap.size + 1 ≠ wo.heap.size by omega))) (by intro e; have h9 : wo.heap.size + 2 ≤ wo.heap.size + 1 := hob _ e.symm; omega)⟩, ⟨by rw [List.map_append]; exact HO8.out⟩, ⟨by rw [HGT.out]; rfl⟩, ⟨by rw [List.length_append]; have := HO.out.1; simp; omega, fun y hy => by
                        rcases List.mem_append.1 hy with h | h
                        · exact HO.out.2 y h
                        · rw [List.mem_singleton.1 h]; exact HX.out⟩, ⟨by omega⟩⟩
          · have hljz : ¬ (jj : Int) < (l.length : Int) := by omega
            obtain rfl : jj = l.length := by omega
            have HFIN : Aside0 (R = askFin l t key true (some out)) := ⟨by rw [HAV.out, ← GA.out, List.drop_length]; rfl⟩
            have HW0 := Aside0.mk (HB0.out.trans (BQ.out.mono HB0.out.size))
            have HHK := Aside0.mk (HOK.out)
            go_wp2_with (go_at_call 85; refine (HCL.out _ HW0.out).mono ?_; rintro e w9 ⟨v9, rfl, ho9, hb9⟩; have HO9 := Aside0.mk ho9; have HB9 := Aside0.mk hb9; clear ho9 hb9)
            refine (DeleteFuncHold (isOut out) 88 #[.pointer (some ⟨wo.heap.size + 1, 0, none⟩)] (enters_of Try.func88 (by kernel_rfl) rfl) v9 (l.map enc75) _ w9 HO9.out HB9.out.size (fun W c hg hc => by
              obtain ⟨x, hx, rfl⟩ := List.mem_map.1 hc
              have hne1 : some wo.heap.size ≠ v9.ownBlock := fun e => by have := HO9.out.base _ e.symm; have := HZQ.out; omega
              have hne2 : some (wo.heap.size + 1) ≠ v9.ownBlock := fun e => by have := HO9.out.base _ e.symm; have := HZQ.out; omega
              exact lockAsk1 (wo.heap.size + 1) wo.heap.size _ out x W (HHK.out x hx) HO.out.2 (hg.cell ((HB9.out.cell (World.block_lt_of_cell? _ _ CV.out)).trans CV.out) hne2) ((BO.out.kept HB9.out).grown hg hne1))).mono ?_
            rintro e w10 ⟨v10, rfl, ho10, hg10⟩
            rw [raw_filterO] at ho10
            have HO10 := Aside0.mk ho10
            have HB10 : Aside0 (Below wr.heap.size wr w10) := ⟨HB9.out.grown hg10 HB9.out.size (fun k e => HO9.out.base k e)⟩
            have OW10 := Aside0.mk (OW.out.below HB10.out)
            have HW10 := Aside0.mk (HW0.out.trans (HB10.out.mono HW0.out.size))
            have htq := ((BQ.out.trans (HB10.out.mono BQ.out.size)).block w.heap.size HZ0.out).trans HTX.out
            have ht0 : w10.cell? ⟨w.heap.size, 0, none⟩ = some (.int .u64 t.f0) := cell_row (cs := [.int .u64 t.f0, .int .u64 t.f1]) htq 0
            have ht1 : w10.cell? ⟨w.heap.size, 1, none⟩ = some (.int .u64 t.f1) := cell_row (cs := [.int .u64 t.f0, .int .u64 t.f1]) htq 1
            have hbase : Aside0 (w.heap.size ≤ wr.heap.size ∧ w.heap.size ≤ wo.heap.size + 2) := ⟨by have := HW0.out.size; have := HZW.out; have := HZ0.out; exact ⟨by omega, by omega⟩⟩
            have hlen : Aside0 ((restV l out).length ≤ l.length) := ⟨List.length_filter_le _ _⟩
            clear ho10 hg10 htq
            have HOFM := Aside0.mk (lockOf_sl v10 (restV l out) t key w10 (flat75.ofsl HO10.out.sl))
            have HUP : Aside0 (askFin l t key true (some out) = if 0 ≤ findI (isHK t key) (restV l out) then (askUp (restV l out) t key, out, 0) else if 48 ≤ (restV l out).length then (l, [], 5) else (restV l out ++ [⟨key, t, true⟩], out, 0)) := ⟨rfl⟩
            by_cases hup : 0 ≤ findI (isHK t key) (restV l out)
            · obtain ⟨im, him, hfim⟩ := findI_range _ _ hup
              have HRU : Aside0 (R = ((restV l out).set im ⟨((restV l out)[im]!).f0, ((restV l out)[im]!).f1, true⟩, out, 0)) := ⟨by
                rw [HFIN.out, HUP.out, if_pos hup]; unfold askUp atI; rw [hfim]; rfl⟩
              have HSE := Aside0.mk (set_enc (restV l out) im him)
              rw [hfim] at HOFM
              clear hup hfim HUP
              generalize restV l out = m at *
              have him2 : im < (m.map enc75).length := by rw [List.length_map]; exact him
              rcases HO10.out.cases with ⟨_, he⟩ | ⟨g, cap, cur, rfl, hbg, hgw, hh, hcp, hcm, hcl⟩
              · exfalso
                rw [he] at him2
                simp at him2
              · have hiz3 : (0 : Int) ≤ (im : Int) := by omega
                have hiz4 : (im : Int) < (m.length : Int) := by omega
                have HG0 := HO10.out
                rw [List.length_map] at HOFM HG0
                have hgt := HG0.get im 3 him2 (by decide)
                have hst := HG0.store im 3 him2 (by decide) (.bool true) rfl
                have HST := Aside0.mk hst
                have HGT3 := Aside0.mk hgt
                have HBG := Aside0.mk hbg
                have HGW := Aside0.mk hgw
                clear hh hcl hbg hgw hcm hst hgt
                have hm2 : m.length ≤ 9223372036854775807 := by have := hlen.out; omega
                go_wp2_with (go_at_call 84; refine (HOFM.out).mono ?_; rintro e w11 ⟨rfl, hb11⟩; have HB11 := Aside0.mk hb11; have hq1 := (hb11.cell (World.block_lt_of_cell? _ _ HGT3.out.1)).trans HGT3.out.1; have hq2 := (hb11.frozen (p := ⟨g, im * 4 + 3, none⟩) HGW.out).trans HGT3.out.2.1; clear hb11)
                go_ret3
                have HG1 := HG0.below HB11.out
                have hst := HG1.store im 3 him2 (by decide) (.bool true) rfl
                have hol := OW.out.lt
                rw [HRU.out]
                refine ⟨_, _, rfl, ?_, ((OW10.out.below HB11.out).kept hst.2 (fun k e => someNe (by have := hol k e; have := HBG.out; omega))).lower hbase.out.2, (HW10.out.trans (HB11.out.mono HW10.out.size)).grown hst.2 (by have := HW10.out.size; have := HB11.out.size; omega) (fun k e => by cases e; have := hbase.out.1; have := HBG.out; omega)⟩
                have h9 := hst.1
                rw [HSE.out] at h9
                exact h9.lower hbase.out.1
            · have hneg := findI_neg _ _ hup
              rw [hneg] at HOFM
              have hlm : (((restV l out).map enc75).length) = (restV l out).length := List.length_map _
              obtain ⟨MA, mc, hv10, hmc, hMC⟩ := HO10.out.sl
              rw [hlm] at hv10
              have HRN : Aside0 (R = if 48 ≤ (restV l out).length then (l, [], 5) else (restV l out ++ [⟨key, t, true⟩], out, 0)) := ⟨by rw [HFIN.out, HUP.out, if_neg hup]⟩
              clear hup hneg HUP hlm hmc hMC
              generalize restV l out = m at *
              subst hv10
              have hm2 : m.length ≤ 9223372036854775807 := by have := hlen.out; omega
              by_cases h48 : 48 ≤ m.length
              · have h48z : (48 : Int) ≤ (m.length : Int) := by omega
                have HRB : Aside0 (R = (l, [], 5)) := ⟨by rw [HRN.out, if_pos h48]⟩
                go_wp2_with (first
                  | (go_at_call 84; refine (HOFM.out).mono ?_; rintro e w11 ⟨rfl, hb11⟩; have HW11 := Aside0.mk (HW10.out.trans (hb11.mono HW10.out.size)); clear hb11)
                  | (go_at_call 85; refine (HCL.out _ HW11.out).mono ?_; rintro e w12 ⟨v12, rfl, ho12, hb12⟩; have HO12 := Aside0.mk ho12; have HB12 := Aside0.mk hb12; clear ho12 hb12))
                go_ret3
                rw [HRB.out]
                exact ⟨v12, _, rfl, HO12.out.lower HW11.out.size, Own.nil _ _ _ _, HW11.out.trans (HB12.out.mono HW11.out.size)⟩
              · have h48z : ¬ (48 : Int) ≤ (m.length : Int) := by omega
                have HRB : Aside0 (R = (m ++ [⟨key, t, true⟩], out, 0)) := ⟨by rw [HRN.out, if_neg h48]⟩
                have H48 := Aside0.mk h48
                go_wp2_with (first
                  | (go_at_call 84; refine (HOFM.out).mono ?_; rintro e w11 ⟨rfl, hb11⟩; have HB11 := Aside0.mk hb11; have ht2 : w11.cell? ⟨w.heap.size, 0, none⟩ = some (.int .u64 t.f0) := (hb11.cell (World.block_lt_of_cell? _ _ ht0)).trans ht0; have ht3 : w11.cell? ⟨w.heap.size, 1, none⟩ = some (.int .u64 t.f1) := (hb11.cell (World.block_lt_of_cell? _ _ ht1)).trans ht1; clear hb11)
                  | (at_builtin; refine own_push rfl (.tmp 113) (.tmp 118) rfl Try.underlying23 infoHold rfl (by decide) (by decide) rfl rfl (c := [.string key, .int .u64 t.f0, .int .u64 t.f1, .bool true]) ⟨rfl, by simp [Value.oneCell']⟩ (HO10.out.below HB11.out) (by have := HB10.out.size; have := HB11.out.size; omega) (by rw [List.length_map]; have := H48.out; omega) ?_; intro v12 w12 ho12 hg12; have HO12 := Aside0.mk ho12; have HG12 := Aside0.mk hg12; clear ho12 hg12))
                go_ret3
                have hol := OW.out.lt
                have hoh := HO10.out.base
                rw [HRB.out]
                refine ⟨v12, _, rfl, ?_, ((OW10.out.below HB11.out).kept HG12.out (fun k e e2 => by have := hol k e; have := hoh k e2.symm; omega)).lower hbase.out.2, (HW10.out.trans (HB11.out.mono HW10.out.size)).grown HG12.out (by have := HW10.out.size; have := HB11.out.size; omega) (fun k e => by have := hoh k e; have := hbase.out.1; omega)⟩
                rw [List.map_append]
                exact HO12.out.lower hbase.out.1
end Go.Proofs.Ytmcgcdpiceikeaa.PAll
end
