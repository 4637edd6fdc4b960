/- Joined texts of the claim LeaseMost (part 37): contracts of functions and plain laws. -/
import Derived.Outline
import Derived.Test.YtlmefnifhbcbcaaJLeaseMost32
import Derived.Test.YtlmefnifhbcbcaaJLeaseMost33
import Derived.Test.YtlmefnifhbcbcaaJLeaseMost34
import Derived.Test.YtlmefnifhbcbcaaJLeaseMost35
import Derived.Test.YtlmefnifhbcbcaaJLeaseMost36
section
/- Groups: Agreed, as the printed texts call it. -/
namespace Go.Proofs.Ytlmefnifhbcbcaa.PAll
open Go.RowKit Go.Proofs.YtlmefnifhbcbcaaW.PrintWords Go.Proofs.YtlmefnifhbcbcaaW.PrintMore Go.Proofs.Ytlmefnifhbcbcaa
set_option linter.unusedVariables false
/-- 'b - a' as the code tells it. -/
def cmpA (a b : Int) : Int := if a > b then -1 else if a < b then 1 else 0
theorem cmpA_lt (a b : Int) : Go.Proofs.ltOf cmpA a b = decide (b < a) := by
  unfold Go.Proofs.ltOf cmpA
  split
  · rw [decide_eq_true (by omega), decide_eq_true (by omega)]
  · split
    · rw [decide_eq_false (by omega), decide_eq_false (by omega)]
    · rw [decide_eq_false (by omega), decide_eq_false (by omega)]
theorem cmpA_swo : Go.Sort.SWO (Go.Proofs.ltOf cmpA) := by
  refine ⟨fun x => ?_, fun x y z h1 h2 => ?_, fun x y z h1 h2 => ?_⟩
  · rw [cmpA_lt]; exact decide_eq_false (by omega)
  · rw [cmpA_lt, decide_eq_true_eq] at *; omega
  · rw [cmpA_lt, decide_eq_false_iff_not] at *; omega
theorem closureA (x y : Int) (W : World) : Calls Try.prog 60 #[.int .u64 x, .int .u64 y] W fun e w' => e = .returned (.int .i64 (cmpA x y)) ∧ ∃ q, w' = W.drewN q := by
  unfold cmpA
  by_cases h1 : y < x
  · have h1b : decide (y < x) = true := decide_eq_true h1
    rw [if_pos (show x > y from h1)]
    go_enter Try.func60, Try.ntmps60
    go_wp2
    go_ret
    exact ⟨rfl, 0, rfl⟩
  · have h1b : decide (y < x) = false := decide_eq_false h1
    rw [if_neg (show ¬ x > y from h1)]
    by_cases h2 : x < y
    · have h2b : decide (x < y) = true := decide_eq_true h2
      rw [if_pos h2]
      go_enter Try.func60, Try.ntmps60
      go_wp2
      go_ret
      exact ⟨rfl, 0, rfl⟩
    · have h2b : decide (x < y) = false := decide_eq_false h2
      rw [if_neg h2]
      go_enter Try.func60, Try.ntmps60
      go_wp2
      go_ret
      exact ⟨rfl, 0, rfl⟩
theorem infoU64 : (Try.prog.info? 22).map (fun i => (i.zero, i.size, i.bytes)) = some (some (.int .u64 0), 1, 8) := by kernel_rfl
def group_Agreed.f (l0_0 l0_1 : List Int) (l1 : List S39) : Option Int := if natM l1 = true ∧ l0_0.length ≤ 17592186044404 then some (agrV l0_0 l1) else none
theorem sortWorld_grown (enc : Int → Value) (w : World) (g off n : Nat) (d : Array Int) (os : Array Obj) : w.grownBy (Go.Proofs.sortWorld enc w g off n d os) (some g) := by
  refine ⟨rfl, rfl, rfl, ?_, fun k hk hne => ?_⟩
  · simp [Go.Proofs.sortWorld, Go.Sort.grow]
  · have hk2 : k < (Go.Sort.putRow enc (Go.Sort.ahead w n) g off d).heap.size := by simpa using hk
    have e1 : (Go.Proofs.sortWorld enc w g off n d os).heap[k]? = (Go.Sort.putRow enc (Go.Sort.ahead w n) g off d).heap[k]? := by
      show ((Go.Sort.putRow enc (Go.Sort.ahead w n) g off d).heap ++ os)[k]? = _
      rw [Array.getElem?_append_left hk2]
    rw [e1]
    have hkg : g ≠ k := fun e => hne (by rw [e])
    simp [Go.Sort.putRow, Go.Sort.mapBlock, Array.getElem?_modify, hkg]
theorem toList_bang (d : Array Int) (k : Nat) (h : k < d.size) : d.toList[k]! = d[k]! := by
  rw [getElem!_pos d k h, getElem!_pos d.toList k (by simpa using h)]
  rfl
theorem sorted_val (l : List Int) (m : List S39) (d' : Array Int) (hn : natM m = true) (h0 : 0 < l.length) (hp : Go.Sort.PermIn 0 l.length (valsV l m).toArray d') (hs : Go.Sort.SortedIn (Go.Proofs.ltOf cmpA) 0 l.length d') : d'[l.length / 2]! = agrV l m := by
  have hvl : (valsV l m).length = l.length := by unfold valsV; simp
  have hsz : d'.size = l.length := by rw [hp.1]; simp [hvl]
  have hperm : d'.toList.Perm (valsV l m) := by
    have := hp.2.2
    rw [show l.length = d'.size from hsz.symm] at this
    have e1 : (d'.extract 0 d'.size) = d' := by simp
    have e2 : ((valsV l m).toArray.extract 0 d'.size) = (valsV l m).toArray := by rw [hsz, ← hvl]; simp
    rw [e1, e2] at this
    exact this
  have key := sorted_agr (valsV l m) d'.toList hperm (fun i j hij hj => by
    have hj2 : j < d'.size := by simpa using hj
    have := hs i j (Nat.zero_le _) hij (by omega)
    rw [cmpA_lt, decide_eq_false_iff_not] at this
    rw [toList_bang d' j hj2, toList_bang d' i (by omega)]
    omega) (fun x hx => by
    unfold valsV at hx
    obtain ⟨id, _, rfl⟩ := List.mem_map.1 hx
    unfold markV
    rcases findI_two (fun x : S39 => x.f0 == id) m with h | ⟨i, hi, h⟩
    · rw [h]; exact Int.le_refl 0
    · rw [h, if_neg (by omega)]
      exact of_decide_eq_true (List.all_eq_true.1 hn _ (getMem m _ (by omega)))) (by omega)
  rw [hvl, toList_bang d' _ (by omega)] at key
  exact key
theorem ret_u {a b : Int} (h : a = b) : Ending.returned (.int .u64 a) = .returned (.int .u64 b) := by rw [h]
set_option maxHeartbeats 2000000 in
set_option maxRecDepth 100000 in
theorem group_Agreed.calls (A0_0 : Option Addr) (c0_0 : Nat) (l0_0 : List Int) (A0_1 : Option Addr) (c0_1 : Nat) (l0_1 : List Int) (A1 : Option Addr) (c1 : Nat) (l1 : List S39) (r : Int) (w : World) (hr0_0 : Kd.C (Kd.int .u64) w A0_0 l0_0.length l0_0) (hc0_0 : l0_0.length ≤ c0_0) (hr0_1 : Kd.C (Kd.int .u64) w A0_1 l0_1.length l0_1) (hc0_1 : l0_1.length ≤ c0_1) (hr1 : Kd.C k39 w A1 l1.length l1) (hc1 : l1.length ≤ c1) (h : group_Agreed.f l0_0 l0_1 l1 = some r) :
    Calls Try.prog 27 #[.agg #[.slice A0_0 l0_0.length c0_0, .slice A0_1 l0_1.length c0_1], .slice A1 l1.length c1] w fun e w' => e = .returned (.int .u64 r) ∧ Below w.heap.size w w' := by
  unfold group_Agreed.f at h
  split at h
  case isFalse => cases h
  rename_i hg
  obtain ⟨hn, hl0⟩ := hg
  obtain rfl := Option.some.inj h
  have HR0 := Aside0.mk hr0_0
  have HR1 := Aside0.mk hr1
  have HC0 := Aside0.mk hc0_0
  have HC0_1 := Aside0.mk hc0_1
  have HR0_1 := Aside0.mk hr0_1
  have HC1 := Aside0.mk hc1
  have HN := Aside0.mk hn
  clear h hr0_0 hr0_1 hr1 hc0_0 hc0_1 hc1 hn
  obtain ⟨i0, hi, hz0, hz1, hz2⟩ := info_parts infoU64
  go_enter Try.func27, Try.ntmps27
  have hbx := Aside0.mk (heap_alloc_new w (.cells #[.slice A0_0 l0_0.length c0_0, .slice A0_1 l0_1.length c0_1] 28))
  go_wp2
  go_loopg [5, 13] l0_0.length (fun gg s5 s13 wr => ∃ jj : Nat, jj ≤ l0_0.length ∧ l0_0.length - jj ≤ gg ∧ s13 = .int .i64 jj ∧ Aside0 (Below w.heap.size w wr) ∧ Aside0 (wr.heap[w.heap.size]? = some (.cells #[.slice A0_0 l0_0.length c0_0, .slice A0_1 l0_1.length c0_1] 28 (0, 0))) ∧ Aside0 (wr.ownsRow (w.heap.size + 1) 22 1 s5 jj (((valsV l0_0 l1).take jj).map (Value.int .u64))))
  case atStart => exact ⟨0, Nat.zero_le _, by omega, rfl, ⟨(Below.refl _ _).alloc (Nat.le_refl _) _⟩, hbx, ⟨World.ownsRow_nil _ _ _ _⟩⟩
  case round =>
    obtain ⟨jj, hjj, hgk, rfl, BW, BX, OW⟩ := hrel
    by_cases hlt : jj < l0_0.length
    · have hltz : (jj : Int) < (l0_0.length : Int) := by omega
      obtain ⟨b, o, rfl, hc0_⟩ := cell_ofI (Kd.C_below HR0.out BW.out) jj hlt
      have HT : Aside0 ((valsV l0_0 l1).take (jj + 1) = (valsV l0_0 l1).take jj ++ [markV l1 (l0_0[jj]!)]) := ⟨by
        unfold valsV
        rw [← List.map_take, ← List.map_take, takeGet l0_0 jj hlt, List.map_append]
        rfl⟩
      have HM := Aside0.mk (Mark_eq l1 (l0_0[jj]!))
      have HSZ : Aside0 (w.heap.size + 1 ≤ wr.heap.size) := ⟨(Array.getElem?_eq_some_iff.1 BX.out).1⟩
      generalize l0_0[jj]! = id at *
      generalize markV l1 id = mv at *
      generalize decide (0 ≤ findI (fun x : S39 => x.f0 == id) l1) = mb at *
      go_wp2_with (first
        | (go_at_call 32; refine (group_Mark.calls A1 c1 l1 id mv mb _ (Kd.C_below HR1.out BW.out) HC1.out HM.out).mono ?_; rintro e w5 ⟨rfl, hb5⟩; have HB5 := Aside0.mk hb5; have OW5 := Aside0.mk (OW.out.kept (row := none) (grown_of_below hb5) (Classical.em _)); clear hb5)
        | (at_builtin; refine wpList_append_own _ rfl _ _ 26 rfl (w.heap.size + 1) 22 i0 (.int .u64 0) 1 8 Try.underlying26 hi hz0 hz1 hz2 rfl (by decide) _ _ _ rfl (OW5.out.alloc _) ⟨w5.heap.size, 0, none⟩ 1 1 [.int .u64 mv] rfl rfl ?c1 ?c2 ?c3 ?c4 ?c5 ?_))
      case c1 =>
        intro j u hj
        have h0 : j = 0 := by have := (List.getElem?_eq_some_iff.1 hj).1; simp at this; omega
        subst h0
        obtain rfl : Value.int .u64 mv = u := by simpa using hj
        rw [Addr.add_lit, Nat.zero_add]
        exact cell_row (cs := [.int .u64 mv]) (heap_alloc_new w5 _) 0
      case c2 =>
        intro u hu
        obtain rfl := List.mem_singleton.1 hu
        rfl
      case c3 => unfold maxLen; omega
      case c4 => omega
      case c5 => have := HB5.out.size; have := HSZ.out; simp; omega
      intro v' w6 hown' hgrow _
      have HO6 := Aside0.mk hown'
      have HG6 := Aside0.mk hgrow
      clear hown' hgrow
      have HB6 : Aside0 (Below w.heap.size w (w5.alloc (.cells #[.int .u64 mv] 22))) := ⟨(BW.out.trans (HB5.out.mono BW.out.size)).alloc (by have := HB5.out.size; have := HSZ.out; omega) _⟩
      go_wp2
      go_roundg (l0_0.length - (jj + 1))
      case measure => omega
      case rel =>
        have hbl := (Array.getElem?_eq_some_iff.1 BX.out).1
        refine ⟨jj + 1, by omega, by omega, by go_num, ⟨HB6.out.grown HG6.out HB6.out.size (fun k hk => by have := (OW.out.lt k hk).1; omega)⟩, ⟨?_⟩, ⟨?_⟩⟩
        · rw [HG6.out.block w.heap.size (by have := HB5.out.size; simp; omega) (fun e => by have := (OW.out.lt _ e.symm).1; omega), Below.heap_alloc _ _ _ (by have := HB5.out.size; omega), HB5.out.block _ hbl]
          exact BX.out
        · rw [HT.out, List.map_append, List.map_take]
          exact HO6.out
    · have hltz : ¬ (jj : Int) < (l0_0.length : Int) := by omega
      obtain rfl : jj = l0_0.length := by omega
      clear hlt hjj hgk
      have HOW : Aside0 (wr.ownsRow (w.heap.size + 1) 22 1 u5 l0_0.length ((valsV l0_0 l1).map (Value.int .u64))) := ⟨by have := OW.out; rwa [List.take_of_length_le (by unfold valsV; simp)] at this⟩
      clear OW
      rcases HOW.out.2 with ⟨rfl, hz⟩ | ⟨g, cap, cur, rfl, hbg, hgw, hle, hcm, hcs, htk⟩
      · have hz0 : l0_0 = [] := List.eq_nil_of_length_eq_zero hz
        have HR : Aside0 (agrV l0_0 l1 = 0) := ⟨by rw [hz0]; rfl⟩
        rw [hz] at *
        clear HOW hz hz0
        go_wp2_with (go_at_call 59; refine (sort_none none 0 60 #[] _).mono ?_; rintro e w7 ⟨rfl, rfl⟩)
        go_ret
        exact ⟨by rw [HR.out]; rfl, BW.out⟩
      · have hpos : 0 < l0_0.length ∨ l0_0.length = 0 := by omega
        have hvl : (valsV l0_0 l1).length = l0_0.length := by unfold valsV; simp
        have hcells := HOW.out.cells (g := g) rfl
        have hH : Go.Sort.Holds (Value.int .u64) wr g 0 (valsV l0_0 l1).toArray := fun j hj => by
          have hj2 : j < (valsV l0_0 l1).length := by simpa using hj
          refine ⟨?_, by simp [World.frozen?, hgw]⟩
          have := hcells j (.int .u64 ((valsV l0_0 l1)[j]!)) (by rw [List.getElem?_map, List.getElem?_eq_getElem hj2, getElem!_pos _ j hj2]; rfl)
          rw [Addr.add_lit] at this
          rw [this]
          simp [getElem!_pos, hj2]
        have hcon := sort_func (Value.int .u64) (fun _ => rfl) cmpA cmpA_swo 60 #[] g 0 cap (valsV l0_0 l1).toArray wr (enters_of Try.func60 (by kernel_rfl) rfl) (Go.Proofs.CmpReads.lays (fun m os dk _ x y => closureA x y _)) hH (Array.getElem?_eq_some_iff.1 hgw).1 (by simp [hvl]; omega)
        have hsize : (valsV l0_0 l1).toArray.size = l0_0.length := by simp [hvl]
        rw [hsize] at hcon
        have HCON := Aside0.mk hcon
        have HHH := Aside0.mk hH
        have HGW := Aside0.mk hgw
        have HSIZE := Aside0.mk hsize
        have HVL := Aside0.mk hvl
        have HBG := Aside0.mk hbg
        clear hcon hH hgw hcells hsize hvl HOW htk hcs hcm
        have HBOX : Aside0 (∀ d' nn os, (Go.Proofs.sortWorld (Value.int .u64) wr g 0 nn d' os).heap[w.heap.size]? = some (.cells #[.slice A0_0 l0_0.length c0_0, .slice A0_1 l0_1.length c0_1] 28 (0, 0))) := ⟨fun d' nn os => ((sortWorld_grown _ wr g 0 nn d' os).block w.heap.size (Array.getElem?_eq_some_iff.1 BX.out).1 (fun e => by have := Option.some.inj e; have := HBG.out; omega)).trans BX.out⟩
        have HBEL : Aside0 (∀ d' nn os, Below w.heap.size w (Go.Proofs.sortWorld (Value.int .u64) wr g 0 nn d' os)) := ⟨fun d' nn os => BW.out.grown (sortWorld_grown _ wr g 0 nn d' os) BW.out.size (fun k e => by cases e; have := HBG.out; omega)⟩
        have HHL : Aside0 (∀ d' nn os, d'.size = l0_0.length → Go.Sort.Holds (Value.int .u64) (Go.Proofs.sortWorld (Value.int .u64) wr g 0 nn d' os) g 0 d') := ⟨fun d' nn os hs => Go.Proofs.holds_sortWorld (Value.int .u64) wr g 0 nn (valsV l0_0 l1).toArray d' os (Array.getElem?_eq_some_iff.1 HGW.out).1 HHH.out (by rw [HSIZE.out]; exact hs)⟩
        by_cases hl : l0_0.length = 0
        · have hz0 : l0_0 = [] := List.eq_nil_of_length_eq_zero hl
          have HR : Aside0 (agrV l0_0 l1 = 0) := ⟨by rw [hz0]; rfl⟩
          have hlb : ((l0_0.length : Int) == 0) = true := by simpa using hl
          clear hl hz0
          go_wp2_with (go_at_call 59; refine HCON.out.mono ?_; rintro e w7 ⟨rfl, d', nn, os, hperm, hsorted, hw7⟩; have HW7 := Aside0.mk hw7; clear hw7 hperm hsorted)
          go_ret
          exact ⟨by rw [HR.out]; rfl, by rw [HW7.out]; exact HBEL.out _ _ _⟩
        · have hlb : ((l0_0.length : Int) == 0) = false := by simpa using hl
          have HL0 := Aside0.mk hl
          clear hl hpos
          have hq0 : (0 : Int) ≤ (l0_0.length : Int) / 2 := by omega
          have hq1 : (l0_0.length : Int) / 2 < (l0_0.length : Int) := by have := HL0.out; omega
          have hq2 : ((l0_0.length : Int) / 2).toNat = l0_0.length / 2 := by omega
          have hq3 : (l0_0.length : Int) / 2 + 1 - 1 = (l0_0.length : Int) / 2 := by omega
          go_wp2_with (fail)
          refine HCON.out.mono ?_
          rintro e w7 ⟨rfl, d', nn, os, hperm, hsorted, hw7⟩
          have hbx7 : w7.heap[w.heap.size]? = some (.cells #[.slice A0_0 l0_0.length c0_0, .slice A0_1 l0_1.length c0_1] 28 (0, 0)) := by rw [hw7]; exact HBOX.out d' nn os
          have hb0 : w7.cell? ⟨w.heap.size, 0, none⟩ = some (.slice A0_0 l0_0.length c0_0) := cell_row (cs := [.slice A0_0 l0_0.length c0_0, .slice A0_1 l0_1.length c0_1]) hbx7 0
          have hb1 : w7.cell? ⟨w.heap.size, 1, none⟩ = some (.slice A0_1 l0_1.length c0_1) := cell_row (cs := [.slice A0_0 l0_0.length c0_0, .slice A0_1 l0_1.length c0_1]) hbx7 1
          have HP7 := Aside0.mk hperm
          have HS7 := Aside0.mk hsorted
          have HD7 := Aside0.mk (show d'.size = l0_0.length by rw [hperm.1]; exact HSIZE.out)
          have HB7 := Aside0.mk (show Below w.heap.size w w7 by rw [hw7]; exact HBEL.out d' nn os)
          have HH7 := Aside0.mk (show Go.Sort.Holds (Value.int .u64) w7 g 0 d' by rw [hw7]; exact HHL.out d' nn os HD7.out)
          clear hw7 hperm hsorted hbx7
          go_wp2_with (go_at_call 39; refine (group_Need.calls A0_0 c0_0 l0_0 A0_1 c0_1 l0_1 _ _ (Kd.C_below HR0.out HB7.out) HC0.out (Kd.C_below HR0_1.out HB7.out) HC0_1.out (need_val l0_0 l0_1 (by omega))).mono ?_; rintro e w8 ⟨rfl, hb8⟩; have hcell8 : w8.cell? ⟨g, l0_0.length / 2, none⟩ = some (.int .u64 d'[l0_0.length / 2]!) := (by have h := HH7.out (l0_0.length / 2) (by rw [HD7.out]; have := HL0.out; omega); rw [Nat.zero_add] at h; exact (hb8.cell (World.block_lt_of_cell? _ _ h.1)).trans h.1); have HB8 := Aside0.mk hb8; clear hb8)
          go_ret
          exact ⟨ret_u (sorted_val l0_0 l1 d' HN.out (by have := HL0.out; omega) HP7.out HS7.out), HB7.out.trans (HB8.out.mono HB7.out.size)⟩
end Go.Proofs.Ytlmefnifhbcbcaa.PAll
end
