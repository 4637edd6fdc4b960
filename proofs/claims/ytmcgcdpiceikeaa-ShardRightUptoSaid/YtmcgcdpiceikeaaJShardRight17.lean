/- Joined texts of the claim ShardRight (part 17): contracts of functions and plain laws. -/
import Derived.Laws.Externs
import Derived.Test.YtmcgcdpiceikeaaJShardRight16
import Derived.Test.YtmcgcdpiceikeaaJShardRight2
section
/- slices.DeleteFunc at this program's element types. -/
namespace Go.Proofs.Ytmcgcdpiceikeaa
open Go.RowKit Go.Proofs.YtmcgcdpiceikeaaW.PrintWords
set_option linter.unusedVariables false
set_option linter.unusedSimpArgs false
set_option maxHeartbeats 1000000 in
set_option maxRecDepth 100000 in
theorem DeleteFuncRow (p : List Value → Bool) (gf : Nat) (lb : Array Value) (eg : ∀ args w, (callFunc gf args).run Try.prog w = .ok (.enter gf args) w) (v : Value) (css : List (List Value)) (base : Nat) (w : World) (hv : Own 3 50 w base v css) (hbase : base ≤ w.heap.size)
    (hp : ∀ W c, w.grownBy W v.ownBlock → c ∈ css → Calls Try.prog gf (#[.agg c.toArray] ++ lb) W fun e W' => e = .returned (.bool (p c)) ∧ Below W.heap.size W W') :
    Calls Try.prog 100 #[v, .func (.func gf) #[] lb] w fun e w' => ∃ v', e = .returned v' ∧ Own 3 50 w' base v' (css.filter (fun c => !p c)) ∧ w.grownBy w' v.ownBlock := by
  have hidx : Calls Try.prog 98 #[v, .func (.func gf) #[] lb] w fun e w' => e = .returned (.int .i64 (findI p css)) ∧ Below w.heap.size w w' :=
    IndexFuncRow (raw 3) rfl p gf lb eg v css w hv.sl (fun W x cs hb hx hK => by
      obtain ⟨rfl, _⟩ := hK
      exact hp W _ (grown_of_below hb) hx)
  by_cases hno : css.all (fun c => !p c)
  · have hm : findI p css = -1 := findI_miss p css (fun j hj => by rw [getElem!_pos css j hj]; simpa using List.all_eq_true.1 hno _ (List.getElem_mem hj))
    have hf : css.filter (fun c => !p c) = css := List.filter_eq_self.2 (fun c hc => List.all_eq_true.1 hno c hc)
    rw [hm] at hidx
    rw [hf]
    have HI := hidx
    have HV := Aside0.mk hv
    clear hidx hp hno hm hf hv
    go_enter Try.func100, Try.ntmps100
    go_wp2_with (go_at_call 98; refine HI.mono ?_; rintro e w' ⟨rfl, hb'⟩)
    go_ret
    exact ⟨_, rfl, HV.out.below hb', grown_of_below hb'⟩
  · rcases hv.cases with ⟨rfl, rfl⟩ | ⟨g, cap, cur, rfl, hbg, hgw, hh, hcp, hcm, hcl⟩
    · simp at hno
    · have h1 := hv.1
      have hk1 : ∀ c ∈ css, c.length = 3 := fun c hc => (h1 c hc).1
      obtain ⟨n, hn⟩ : ∃ n, n = css.length := ⟨_, rfl⟩
      have hhit : ∃ ii, ii < n ∧ findI p css = (ii : Int) ∧ p css[ii]! = true ∧ ∀ j, j < ii → p css[j]! = false := by
        have hx : ¬ css.findIdx p = css.length := fun hx => hno (by
          rw [List.all_eq_true]
          intro c hc
          have := List.findIdx_eq_length.1 hx c hc
          simpa using this)
        have hlt : css.findIdx p < css.length := Nat.lt_of_le_of_ne List.findIdx_le_length hx
        refine ⟨css.findIdx p, by omega, by unfold findI; rw [if_pos hlt], by rw [getElem!_pos css _ hlt]; exact List.findIdx_getElem, fun j hj => ?_⟩
        rw [getElem!_pos css j (by omega)]
        simpa using List.not_of_lt_findIdx hj
      obtain ⟨ii, hii, hfi, hpi, hbefore⟩ := hhit
      rw [hfi] at hidx
      have hff : ∀ j, j ≤ ii → (css.take j).filter (fun c => !p c) = css.take j := fun j hj => List.filter_eq_self.2 (fun c hc => by
        obtain ⟨m, hm⟩ := List.mem_iff_getElem?.1 hc
        rw [List.getElem?_take] at hm
        split at hm
        · have hmj : m < css.length := (List.getElem?_eq_some_iff.1 hm).1
          have := hbefore m (by omega)
          rw [getElem!_pos css m hmj, (List.getElem?_eq_some_iff.1 hm).2] at this
          simp [this]
        · cases hm)
      -- one element more
      have hstep : ∀ j, j < n → (css.take (j + 1)).filter (fun c => !p c) = (css.take j).filter (fun c => !p c) ++ if p css[j]! then [] else [css[j]!] := fun j hj => by
        rw [List.take_succ_eq_append_getElem (by omega), List.filter_append, getElem!_pos css j (by omega)]
        cases hpj : p css[j] <;> simp [hpj]
      have hdrop : ∀ j, j < n → (css.drop j).flatten = css[j]! ++ (css.drop (j + 1)).flatten := fun j hj => by
        rw [List.drop_eq_getElem_cons (by omega), List.flatten_cons, getElem!_pos css j (by omega)]
      have hel : ∀ j, j < n → css[j]! ∈ css := fun j hj => by rw [getElem!_pos css j (by omega)]; exact List.getElem_mem (by omega)
      have hfl : ∀ j, ((css.take j).filter (fun c => !p c)).flatten.length = ((css.take j).filter (fun c => !p c)).length * 3 := fun j => flat_len (fun c hc => hk1 c (List.mem_of_mem_take (List.mem_filter.1 hc).1))
      have hfle : ∀ j, j ≤ n → ((css.take j).filter (fun c => !p c)).length ≤ j := fun j hj => Nat.le_trans (List.length_filter_le _ _) (by rw [List.length_take]; omega)
      have hdl : ∀ j, j ≤ n → (css.drop j).flatten.length = (n - j) * 3 := fun j hj => by rw [flat_len (fun c hc => hk1 c (List.mem_of_mem_drop hc)), List.length_drop, hn]
      have hfi1 : (css.take (ii + 1)).filter (fun c => !p c) = css.take ii := by rw [hstep ii hii, hff ii (Nat.le_refl _), hpi]; simp
      have hst0 : w.heap[g]? = some (.cells (((css.take (ii + 1)).filter (fun c => !p c)).flatten ++ css[ii]! ++ ((css.drop (ii + 1)).flatten ++ cur)).toArray 50 (0, 0)) := by
        rw [hh, hfi1, show css.flatten = (css.take ii).flatten ++ (css.drop ii).flatten by rw [← List.flatten_append, List.take_append_drop], hdrop ii hii]
        simp
      have hi0 : ((css.take (ii + 1)).filter (fun c => !p c)).length = ii := by rw [hfi1, List.length_take]; omega
      rw [← hn] at hidx
      have HI := hidx
      have HP := Aside0.mk hp
      have H1 := Aside0.mk h1
      have HS := Aside0.mk hstep
      have HD := Aside0.mk hdrop
      have HE := Aside0.mk hel
      have HFL := Aside0.mk hfl
      have HFE := Aside0.mk hfle
      have HDL := Aside0.mk hdl
      have HH := Aside0.mk hh
      have HST := Aside0.mk hst0
      have HI0 := Aside0.mk hi0
      have HII := Aside0.mk hii
      have HCL := Aside0.mk hcl
      have HCP := Aside0.mk hcp
      have HCM := Aside0.mk hcm
      have HBG := Aside0.mk hbg
      have HGW := Aside0.mk hgw
      have HN := Aside0.mk hn
      have HIL : Aside0 (css[ii]!.length = 3) := ⟨hk1 _ (hel ii hii)⟩
      have hsz : (Try.prog.info? 50).map (·.size) = some 3 := by kernel_rfl
      have HSZ := Aside0.mk hsz
      have hm63 : (n : Int) ≤ 9223372036854775807 := by unfold maxLen at hcm; omega
      rw [← hn]
      clear hidx hp hno hv h1 hk1 hfi hpi hbefore hff hstep hdrop hel hfl hfle hdl hfi1 hst0 hi0 hh hcl hcp hcm hbg hgw hsz hbase hn
      go_enter Try.func100, Try.ntmps100
      go_wp2_with (go_at_call 98; refine HI.mono ?_; rintro e w1 ⟨rfl, hb1⟩)
      have HB1 := Aside0.mk hb1
      clear HI hb1 hii
      go_loopg [5, 6] n (fun gg s5 s6 wr => ∃ (jj : Nat) (mid : List Value), jj ≤ n ∧ n - jj ≤ gg ∧ s6 = .int .i64 jj ∧ s5 = .int .i64 (((css.take jj).filter (fun c => !p c)).length : Nat) ∧ Aside0 (((css.take jj).filter (fun c => !p c)).length < jj ∧ mid.length = (jj - ((css.take jj).filter (fun c => !p c)).length) * 3 ∧ wr.heap[g]? = some (.cells (((css.take jj).filter (fun c => !p c)).flatten ++ mid ++ ((css.drop jj).flatten ++ cur)).toArray 50 (0, 0)) ∧ w.grownBy wr (some g)))
      case atStart => exact ⟨ii + 1, css[ii]!, by have := HII.out; omega, by omega, by go_num, by rw [HI0.out], ⟨by rw [HI0.out]; omega, by rw [HI0.out, HIL.out]; omega, by rw [HB1.out.block g HGW.out]; exact HST.out, grown_of_below HB1.out⟩⟩
      case round =>
        obtain ⟨jj, mid, hjn, hg, rfl, rfl, HX⟩ := hrel
        by_cases hlt : jj < n
        · have hltz : (jj : Int) < (n : Int) := by omega
          obtain ⟨hlt2, hml, hrow, hgr⟩ := HX.out
          obtain ⟨F, hF⟩ : ∃ F, F = (css.take jj).filter (fun c => !p c) := ⟨_, rfl⟩
          rw [← hF] at hlt2 hml hrow
          have hcl := (H1.out _ (HE.out jj hlt)).1
          have hone := (H1.out _ (HE.out jj hlt)).2
          have hFl : F.flatten.length = F.length * 3 := by rw [hF]; exact HFL.out jj
          have hrg : wr.rangeAt g (jj * 3) css[jj]! := by
            rw [HD.out jj hlt, List.append_assoc css[jj]!] at hrow
            exact range_row hrow (by rw [List.length_append, hFl, hml, ← Nat.add_mul]; congr 1; omega)
          have hst := HS.out jj hlt
          rw [← hF] at hst
          have hgw : g < wr.heap.size := Nat.lt_of_lt_of_le HGW.out hgr.size
          rw [← hF]
          obtain ⟨c, hc⟩ : ∃ c, c = css[jj]! := ⟨_, rfl⟩
          have hcin : c ∈ css := by rw [hc]; exact HE.out jj hlt
          rw [← hc] at hcl hone hrg hst
          have hD1 := HD.out jj hlt
          rw [← hc] at hD1
          have R1 := Aside0.mk hrg
          have R2 := Aside0.mk hcl
          have R3 := Aside0.mk hrow
          have R4 := Aside0.mk hgr
          have R5 := Aside0.mk hst
          have R6 := Aside0.mk hone
          have R7 := Aside0.mk hml
          have R8 := Aside0.mk hFl
          have R9 := Aside0.mk hD1
          have R10 := Aside0.mk hc
          have R11 := Aside0.mk hF
          have hFn : (F.length : Int) < (n : Int) := by omega
          have R12 : Aside0 (F.length * 3 + c.length ≤ (F.flatten ++ mid ++ ((css.drop jj).flatten ++ cur)).length) := ⟨by simp only [List.length_append, hFl, hml, hcl, HDL.out jj hjn]; omega⟩
          have R13 := Aside0.mk hlt2
          clear HX hlt2 hrg hcl hrow hgr hst hone hml hFl hD1 hc hF HI0 HST HH HB1
          cases hq : p c with
          | true =>
            have QQ := Aside0.mk hq
            clear hq
            go_wp2_with (first | ((with_reducible refine gate_dst (N := 25) rfl ?_); refine wpList_load_mid rfl 50 (.tmp 24) rfl g (jj * 3) rfl c _ R1.out Try.underlying50 rfl (by rw [R2.out]; exact HSZ.out) ?_) | ((with_reducible refine gate_store (t := 50) (p := 7) (v := .tmp 25) rfl ?_); refine wpList_store_k rfl 50 (.tmp 7) (.tmp 25) rfl wr.heap.size 0 (.agg #[(.string ⟨#[]⟩), (.string ⟨#[]⟩), (.int .u64 0)] : Value).cells.toList c 50 rfl rfl (heap_alloc_new wr _) (by rw [R2.out]; decide) (by rw [R2.out]; exact HSZ.out) R6.out ?_; intro w7 hr7 hg7; rw [show splice (.agg #[(.string ⟨#[]⟩), (.string ⟨#[]⟩), (.int .u64 0)] : Value).cells.toList 0 c = c from splice_all (by rw [R2.out]; rfl)] at hr7; have G1 := Aside0.mk hr7; have G2 := Aside0.mk (grown_new1 (row := some g) hg7); have G0 := Aside0.mk ((grown_new1 (row := none) hg7).block g hgw (by simp)); clear hr7 hg7) | ((with_reducible refine gate_dst (N := 27) rfl ?_); refine wpList_load_mid rfl 50 (.tmp 7) rfl wr.heap.size 0 rfl c _ (range_row (A := []) (B := []) (by rw [List.append_nil]; exact G1.out) rfl) Try.underlying50 rfl (by rw [R2.out]; exact HSZ.out) ?_) | (go_at_fn gf; have hcall := HP.out w7 c (World.grownBy.trans R4.out G2.out) hcin; rw [QQ.out] at hcall; refine hcall.mono ?_; clear hcall; rintro e w8 ⟨rfl, hb8⟩; have G3 := Aside0.mk hb8; clear hb8))
            go_roundg (n - (jj + 1))
            case measure => omega
            case rel =>
              have e5 := R5.out
              rw [QQ.out, if_pos rfl, List.append_nil] at e5
              refine ⟨jj + 1, mid ++ c, by omega, by omega, by go_num, by rw [e5], ⟨?_⟩⟩
              rw [e5]
              refine ⟨by have := R13.out; omega, by have := R13.out; rw [List.length_append, R7.out, R2.out]; omega, ?_, World.grownBy.trans (World.grownBy.trans R4.out G2.out) (grown_of_below G3.out)⟩
              rw [G3.out.block g (Nat.lt_of_lt_of_le hgw G2.out.size), G0.out, R3.out, R9.out]
              simp
          | false =>
            have QQ := Aside0.mk hq
            clear hq
            go_wp2_with (first | ((with_reducible refine gate_dst (N := 25) rfl ?_); refine wpList_load_mid rfl 50 (.tmp 24) rfl g (jj * 3) rfl c _ R1.out Try.underlying50 rfl (by rw [R2.out]; exact HSZ.out) ?_) | ((with_reducible refine gate_store (t := 50) (p := 7) (v := .tmp 25) rfl ?_); refine wpList_store_k rfl 50 (.tmp 7) (.tmp 25) rfl wr.heap.size 0 (.agg #[(.string ⟨#[]⟩), (.string ⟨#[]⟩), (.int .u64 0)] : Value).cells.toList c 50 rfl rfl (heap_alloc_new wr _) (by rw [R2.out]; decide) (by rw [R2.out]; exact HSZ.out) R6.out ?_; intro w7 hr7 hg7; rw [show splice (.agg #[(.string ⟨#[]⟩), (.string ⟨#[]⟩), (.int .u64 0)] : Value).cells.toList 0 c = c from splice_all (by rw [R2.out]; rfl)] at hr7; have G1 := Aside0.mk hr7; have G2 := Aside0.mk (grown_new1 (row := some g) hg7); have G0 := Aside0.mk ((grown_new1 (row := none) hg7).block g hgw (by simp)); clear hr7 hg7) | ((with_reducible refine gate_dst (N := 27) rfl ?_); refine wpList_load_mid rfl 50 (.tmp 7) rfl wr.heap.size 0 rfl c _ (range_row (A := []) (B := []) (by rw [List.append_nil]; exact G1.out) rfl) Try.underlying50 rfl (by rw [R2.out]; exact HSZ.out) ?_) | (go_at_fn gf; have hcall := HP.out w7 c (World.grownBy.trans R4.out G2.out) hcin; rw [QQ.out] at hcall; refine hcall.mono ?_; clear hcall; rintro e w8 ⟨rfl, hb8⟩; have G3 := Aside0.mk hb8; clear hb8) | ((with_reducible refine gate_dst (N := 32) rfl ?_); refine wpList_load_mid rfl 50 (.tmp 7) rfl wr.heap.size 0 rfl c _ (range_row (A := []) (B := []) (by rw [List.append_nil, G3.out.block _ (Nat.lt_of_lt_of_le (Array.getElem?_eq_some_iff.1 G1.out).1 (Nat.le_refl _))]; exact G1.out) rfl) Try.underlying50 rfl (by rw [R2.out]; exact HSZ.out) ?_) | ((with_reducible refine gate_store (t := 50) (p := 33) (v := .tmp 32) rfl ?_); refine wpList_store_k rfl 50 (.tmp 33) (.tmp 32) rfl g (F.length * 3) (F.flatten ++ mid ++ ((css.drop jj).flatten ++ cur)) c 50 rfl rfl (by rw [G3.out.block g (Nat.lt_of_lt_of_le hgw G2.out.size), G0.out]; exact R3.out) R12.out (by rw [R2.out]; exact HSZ.out) R6.out ?_; intro w9 hr9 hg9; have G4 := Aside0.mk hr9; have G5 := Aside0.mk hg9; clear hr9 hg9))
            go_roundg (n - (jj + 1))
            case measure => omega
            case rel =>
              have e5 := R5.out
              rw [QQ.out] at e5
              simp only [Bool.false_eq_true, if_false] at e5
              refine ⟨jj + 1, (mid ++ c).drop c.length, by omega, by omega, by go_num, by rw [e5]; simp, ⟨?_⟩⟩
              rw [e5]
              refine ⟨by have := R13.out; simp; omega, by have := R13.out; simp only [List.length_drop, List.length_append, List.length_singleton, R7.out, R2.out]; omega, ?_, World.grownBy.trans (World.grownBy.trans (World.grownBy.trans R4.out G2.out) (grown_of_below G3.out)) G5.out⟩
              have := splice_keep F.flatten mid c ((css.drop (jj + 1)).flatten ++ cur)
              rw [R8.out] at this
              rw [G4.out, R9.out, List.append_assoc c, this]
              simp
        · have hltz : ¬ (jj : Int) < (n : Int) := by omega
          obtain ⟨hlt2, hml, hrow, hgr⟩ := HX.out
          obtain rfl : jj = n := by omega
          obtain ⟨F, hF⟩ : ∃ F, F = (css.take jj).filter (fun c => !p c) := ⟨_, rfl⟩
          have hFc : css.filter (fun c => !p c) = F := by rw [hF, HN.out, List.take_length]
          have hF1 : ∀ c ∈ F, c.length = 3 ∧ ∀ u ∈ c, u.oneCell' = true := fun c hc => H1.out c (List.mem_filter.1 (by rw [hFc]; exact hc)).1
          have hFl : F.flatten.length = F.length * 3 := flat_len (fun c hc => (hF1 c hc).1)
          rw [← hF] at hlt2 hml hrow
          rw [List.drop_eq_nil_of_le (by rw [← HN.out]; omega), List.flatten_nil, List.nil_append] at hrow
          rw [← hF]
          have R6 := Aside0.mk hFc
          have R1 := Aside0.mk hrow
          have R2 := Aside0.mk hgr
          have R3 := Aside0.mk hml
          have R4 := Aside0.mk hFl
          have R5 := Aside0.mk hF1
          have hb1 : ¬ (cap = F.length) := by have := HCP.out; have := HN.out; omega
          have hb2 : (F.length : Int) ≤ (jj : Int) := by omega
          have hb3 : F.length ≤ cap := by have := HCP.out; have := HN.out; omega
          have hb4 : 0 < jj - F.length := by omega
          have hfit : Aside0 (F.length * 3 + (jj - F.length) * 3 ≤ (F.flatten ++ mid ++ cur).length) := ⟨by simp only [List.length_append, hFl, hml]; omega⟩
          have hb5 : jj ≤ cap := by have := HCP.out; have := HN.out; omega
          clear HX hrow hgr hml hFl hF1 hF hFc hlt2 HI0 HST HH HB1
          go_wp2_with ((with_reducible refine gate_builtin (b := .clear) (xs := #[.tmp 38]) rfl ?_); refine wpList_clear_k rfl (.tmp 38) 22 50 (.agg #[(.string ⟨#[]⟩), (.string ⟨#[]⟩), (.int .u64 0)]) 3 rfl Try.underlying22 infoRow rfl (by decide) g (F.length * 3) (jj - F.length) (cap - F.length) (F.flatten ++ mid ++ cur) 50 rfl hb4 R1.out hfit.out ?_; intro w9 zs hz hr9 hg9; have G4 := Aside0.mk hr9; have G5 := Aside0.mk hg9; have G6 := Aside0.mk hz; clear hr9 hg9 hz)
          go_ret
          rw [R6.out]
          refine ⟨_, rfl, Own.mk (cur := zs ++ cur) R5.out HBG.out ?_ rfl hb3 HCM.out ?_, World.grownBy.trans R2.out G5.out⟩
          · have := splice_end F.flatten mid cur zs (by rw [G6.out, R3.out])
            rw [R4.out] at this
            rw [G4.out, this]
          · have := HCL.out
            rw [← HN.out] at this
            simp only [List.length_append, G6.out, this]
            omega
-- not of this seat: deletefunc_s u64
set_option maxHeartbeats 1000000 in
set_option maxRecDepth 100000 in
theorem DeleteFuncHold (p : List Value → Bool) (gf : Nat) (lb : Array Value) (eg : ∀ args w, (callFunc gf args).run Try.prog w = .ok (.enter gf args) w) (v : Value) (css : List (List Value)) (base : Nat) (w : World) (hv : Own 4 75 w base v css) (hbase : base ≤ w.heap.size)
    (hp : ∀ W c, w.grownBy W v.ownBlock → c ∈ css → Calls Try.prog gf (#[.agg c.toArray] ++ lb) W fun e W' => e = .returned (.bool (p c)) ∧ Below W.heap.size W W') :
    Calls Try.prog 87 #[v, .func (.func gf) #[] lb] w fun e w' => ∃ v', e = .returned v' ∧ Own 4 75 w' base v' (css.filter (fun c => !p c)) ∧ w.grownBy w' v.ownBlock := by
  have hidx : Calls Try.prog 96 #[v, .func (.func gf) #[] lb] w fun e w' => e = .returned (.int .i64 (findI p css)) ∧ Below w.heap.size w w' :=
    IndexFuncHold (raw 4) rfl p gf lb eg v css w hv.sl (fun W x cs hb hx hK => by
      obtain ⟨rfl, _⟩ := hK
      exact hp W _ (grown_of_below hb) hx)
  by_cases hno : css.all (fun c => !p c)
  · have hm : findI p css = -1 := findI_miss p css (fun j hj => by rw [getElem!_pos css j hj]; simpa using List.all_eq_true.1 hno _ (List.getElem_mem hj))
    have hf : css.filter (fun c => !p c) = css := List.filter_eq_self.2 (fun c hc => List.all_eq_true.1 hno c hc)
    rw [hm] at hidx
    rw [hf]
    have HI := hidx
    have HV := Aside0.mk hv
    clear hidx hp hno hm hf hv
    go_enter Try.func87, Try.ntmps87
    go_wp2_with (go_at_call 96; refine HI.mono ?_; rintro e w' ⟨rfl, hb'⟩)
    go_ret
    exact ⟨_, rfl, HV.out.below hb', grown_of_below hb'⟩
  · rcases hv.cases with ⟨rfl, rfl⟩ | ⟨g, cap, cur, rfl, hbg, hgw, hh, hcp, hcm, hcl⟩
    · simp at hno
    · have h1 := hv.1
      have hk1 : ∀ c ∈ css, c.length = 4 := fun c hc => (h1 c hc).1
      obtain ⟨n, hn⟩ : ∃ n, n = css.length := ⟨_, rfl⟩
      have hhit : ∃ ii, ii < n ∧ findI p css = (ii : Int) ∧ p css[ii]! = true ∧ ∀ j, j < ii → p css[j]! = false := by
        have hx : ¬ css.findIdx p = css.length := fun hx => hno (by
          rw [List.all_eq_true]
          intro c hc
          have := List.findIdx_eq_length.1 hx c hc
          simpa using this)
        have hlt : css.findIdx p < css.length := Nat.lt_of_le_of_ne List.findIdx_le_length hx
        refine ⟨css.findIdx p, by omega, by unfold findI; rw [if_pos hlt], by rw [getElem!_pos css _ hlt]; exact List.findIdx_getElem, fun j hj => ?_⟩
        rw [getElem!_pos css j (by omega)]
        simpa using List.not_of_lt_findIdx hj
      obtain ⟨ii, hii, hfi, hpi, hbefore⟩ := hhit
      rw [hfi] at hidx
      have hff : ∀ j, j ≤ ii → (css.take j).filter (fun c => !p c) = css.take j := fun j hj => List.filter_eq_self.2 (fun c hc => by
        obtain ⟨m, hm⟩ := List.mem_iff_getElem?.1 hc
        rw [List.getElem?_take] at hm
        split at hm
        · have hmj : m < css.length := (List.getElem?_eq_some_iff.1 hm).1
          have := hbefore m (by omega)
          rw [getElem!_pos css m hmj, (List.getElem?_eq_some_iff.1 hm).2] at this
          simp [this]
        · cases hm)
      -- one element more
      have hstep : ∀ j, j < n → (css.take (j + 1)).filter (fun c => !p c) = (css.take j).filter (fun c => !p c) ++ if p css[j]! then [] else [css[j]!] := fun j hj => by
        rw [List.take_succ_eq_append_getElem (by omega), List.filter_append, getElem!_pos css j (by omega)]
        cases hpj : p css[j] <;> simp [hpj]
      have hdrop : ∀ j, j < n → (css.drop j).flatten = css[j]! ++ (css.drop (j + 1)).flatten := fun j hj => by
        rw [List.drop_eq_getElem_cons (by omega), List.flatten_cons, getElem!_pos css j (by omega)]
      have hel : ∀ j, j < n → css[j]! ∈ css := fun j hj => by rw [getElem!_pos css j (by omega)]; exact List.getElem_mem (by omega)
      have hfl : ∀ j, ((css.take j).filter (fun c => !p c)).flatten.length = ((css.take j).filter (fun c => !p c)).length * 4 := fun j => flat_len (fun c hc => hk1 c (List.mem_of_mem_take (List.mem_filter.1 hc).1))
      have hfle : ∀ j, j ≤ n → ((css.take j).filter (fun c => !p c)).length ≤ j := fun j hj => Nat.le_trans (List.length_filter_le _ _) (by rw [List.length_take]; omega)
      have hdl : ∀ j, j ≤ n → (css.drop j).flatten.length = (n - j) * 4 := fun j hj => by rw [flat_len (fun c hc => hk1 c (List.mem_of_mem_drop hc)), List.length_drop, hn]
      have hfi1 : (css.take (ii + 1)).filter (fun c => !p c) = css.take ii := by rw [hstep ii hii, hff ii (Nat.le_refl _), hpi]; simp
      have hst0 : w.heap[g]? = some (.cells (((css.take (ii + 1)).filter (fun c => !p c)).flatten ++ css[ii]! ++ ((css.drop (ii + 1)).flatten ++ cur)).toArray 75 (0, 0)) := by
        rw [hh, hfi1, show css.flatten = (css.take ii).flatten ++ (css.drop ii).flatten by rw [← List.flatten_append, List.take_append_drop], hdrop ii hii]
        simp
      have hi0 : ((css.take (ii + 1)).filter (fun c => !p c)).length = ii := by rw [hfi1, List.length_take]; omega
      rw [← hn] at hidx
      have HI := hidx
      have HP := Aside0.mk hp
      have H1 := Aside0.mk h1
      have HS := Aside0.mk hstep
      have HD := Aside0.mk hdrop
      have HE := Aside0.mk hel
      have HFL := Aside0.mk hfl
      have HFE := Aside0.mk hfle
      have HDL := Aside0.mk hdl
      have HH := Aside0.mk hh
      have HST := Aside0.mk hst0
      have HI0 := Aside0.mk hi0
      have HII := Aside0.mk hii
      have HCL := Aside0.mk hcl
      have HCP := Aside0.mk hcp
      have HCM := Aside0.mk hcm
      have HBG := Aside0.mk hbg
      have HGW := Aside0.mk hgw
      have HN := Aside0.mk hn
      have HIL : Aside0 (css[ii]!.length = 4) := ⟨hk1 _ (hel ii hii)⟩
      have hsz : (Try.prog.info? 75).map (·.size) = some 4 := by kernel_rfl
      have HSZ := Aside0.mk hsz
      have hm63 : (n : Int) ≤ 9223372036854775807 := by unfold maxLen at hcm; omega
      rw [← hn]
      clear hidx hp hno hv h1 hk1 hfi hpi hbefore hff hstep hdrop hel hfl hfle hdl hfi1 hst0 hi0 hh hcl hcp hcm hbg hgw hsz hbase hn
      go_enter Try.func87, Try.ntmps87
      go_wp2_with (go_at_call 96; refine HI.mono ?_; rintro e w1 ⟨rfl, hb1⟩)
      have HB1 := Aside0.mk hb1
      clear HI hb1 hii
      go_loopg [5, 6] n (fun gg s5 s6 wr => ∃ (jj : Nat) (mid : List Value), jj ≤ n ∧ n - jj ≤ gg ∧ s6 = .int .i64 jj ∧ s5 = .int .i64 (((css.take jj).filter (fun c => !p c)).length : Nat) ∧ Aside0 (((css.take jj).filter (fun c => !p c)).length < jj ∧ mid.length = (jj - ((css.take jj).filter (fun c => !p c)).length) * 4 ∧ wr.heap[g]? = some (.cells (((css.take jj).filter (fun c => !p c)).flatten ++ mid ++ ((css.drop jj).flatten ++ cur)).toArray 75 (0, 0)) ∧ w.grownBy wr (some g)))
      case atStart => exact ⟨ii + 1, css[ii]!, by have := HII.out; omega, by omega, by go_num, by rw [HI0.out], ⟨by rw [HI0.out]; omega, by rw [HI0.out, HIL.out]; omega, by rw [HB1.out.block g HGW.out]; exact HST.out, grown_of_below HB1.out⟩⟩
      case round =>
        obtain ⟨jj, mid, hjn, hg, rfl, rfl, HX⟩ := hrel
        by_cases hlt : jj < n
        · have hltz : (jj : Int) < (n : Int) := by omega
          obtain ⟨hlt2, hml, hrow, hgr⟩ := HX.out
          obtain ⟨F, hF⟩ : ∃ F, F = (css.take jj).filter (fun c => !p c) := ⟨_, rfl⟩
          rw [← hF] at hlt2 hml hrow
          have hcl := (H1.out _ (HE.out jj hlt)).1
          have hone := (H1.out _ (HE.out jj hlt)).2
          have hFl : F.flatten.length = F.length * 4 := by rw [hF]; exact HFL.out jj
          have hrg : wr.rangeAt g (jj * 4) css[jj]! := by
            rw [HD.out jj hlt, List.append_assoc css[jj]!] at hrow
            exact range_row hrow (by rw [List.length_append, hFl, hml, ← Nat.add_mul]; congr 1; omega)
          have hst := HS.out jj hlt
          rw [← hF] at hst
          have hgw : g < wr.heap.size := Nat.lt_of_lt_of_le HGW.out hgr.size
          rw [← hF]
          obtain ⟨c, hc⟩ : ∃ c, c = css[jj]! := ⟨_, rfl⟩
          have hcin : c ∈ css := by rw [hc]; exact HE.out jj hlt
          rw [← hc] at hcl hone hrg hst
          have hD1 := HD.out jj hlt
          rw [← hc] at hD1
          have R1 := Aside0.mk hrg
          have R2 := Aside0.mk hcl
          have R3 := Aside0.mk hrow
          have R4 := Aside0.mk hgr
          have R5 := Aside0.mk hst
          have R6 := Aside0.mk hone
          have R7 := Aside0.mk hml
          have R8 := Aside0.mk hFl
          have R9 := Aside0.mk hD1
          have R10 := Aside0.mk hc
          have R11 := Aside0.mk hF
          have hFn : (F.length : Int) < (n : Int) := by omega
          have R12 : Aside0 (F.length * 4 + c.length ≤ (F.flatten ++ mid ++ ((css.drop jj).flatten ++ cur)).length) := ⟨by simp only [List.length_append, hFl, hml, hcl, HDL.out jj hjn]; omega⟩
          have R13 := Aside0.mk hlt2
          clear HX hlt2 hrg hcl hrow hgr hst hone hml hFl hD1 hc hF HI0 HST HH HB1
          cases hq : p c with
          | true =>
            have QQ := Aside0.mk hq
            clear hq
            go_wp2_with (first | ((with_reducible refine gate_dst (N := 25) rfl ?_); refine wpList_load_mid rfl 75 (.tmp 24) rfl g (jj * 4) rfl c _ R1.out Try.underlying75 rfl (by rw [R2.out]; exact HSZ.out) ?_) | ((with_reducible refine gate_store (t := 75) (p := 7) (v := .tmp 25) rfl ?_); refine wpList_store_k rfl 75 (.tmp 7) (.tmp 25) rfl wr.heap.size 0 (.agg #[(.string ⟨#[]⟩), (.int .u64 0), (.int .u64 0), (.bool false)] : Value).cells.toList c 75 rfl rfl (heap_alloc_new wr _) (by rw [R2.out]; decide) (by rw [R2.out]; exact HSZ.out) R6.out ?_; intro w7 hr7 hg7; rw [show splice (.agg #[(.string ⟨#[]⟩), (.int .u64 0), (.int .u64 0), (.bool false)] : Value).cells.toList 0 c = c from splice_all (by rw [R2.out]; rfl)] at hr7; have G1 := Aside0.mk hr7; have G2 := Aside0.mk (grown_new1 (row := some g) hg7); have G0 := Aside0.mk ((grown_new1 (row := none) hg7).block g hgw (by simp)); clear hr7 hg7) | ((with_reducible refine gate_dst (N := 27) rfl ?_); refine wpList_load_mid rfl 75 (.tmp 7) rfl wr.heap.size 0 rfl c _ (range_row (A := []) (B := []) (by rw [List.append_nil]; exact G1.out) rfl) Try.underlying75 rfl (by rw [R2.out]; exact HSZ.out) ?_) | (go_at_fn gf; have hcall := HP.out w7 c (World.grownBy.trans R4.out G2.out) hcin; rw [QQ.out] at hcall; refine hcall.mono ?_; clear hcall; rintro e w8 ⟨rfl, hb8⟩; have G3 := Aside0.mk hb8; clear hb8))
            go_roundg (n - (jj + 1))
            case measure => omega
            case rel =>
              have e5 := R5.out
              rw [QQ.out, if_pos rfl, List.append_nil] at e5
              refine ⟨jj + 1, mid ++ c, by omega, by omega, by go_num, by rw [e5], ⟨?_⟩⟩
              rw [e5]
              refine ⟨by have := R13.out; omega, by have := R13.out; rw [List.length_append, R7.out, R2.out]; omega, ?_, World.grownBy.trans (World.grownBy.trans R4.out G2.out) (grown_of_below G3.out)⟩
              rw [G3.out.block g (Nat.lt_of_lt_of_le hgw G2.out.size), G0.out, R3.out, R9.out]
              simp
          | false =>
            have QQ := Aside0.mk hq
            clear hq
            go_wp2_with (first | ((with_reducible refine gate_dst (N := 25) rfl ?_); refine wpList_load_mid rfl 75 (.tmp 24) rfl g (jj * 4) rfl c _ R1.out Try.underlying75 rfl (by rw [R2.out]; exact HSZ.out) ?_) | ((with_reducible refine gate_store (t := 75) (p := 7) (v := .tmp 25) rfl ?_); refine wpList_store_k rfl 75 (.tmp 7) (.tmp 25) rfl wr.heap.size 0 (.agg #[(.string ⟨#[]⟩), (.int .u64 0), (.int .u64 0), (.bool false)] : Value).cells.toList c 75 rfl rfl (heap_alloc_new wr _) (by rw [R2.out]; decide) (by rw [R2.out]; exact HSZ.out) R6.out ?_; intro w7 hr7 hg7; rw [show splice (.agg #[(.string ⟨#[]⟩), (.int .u64 0), (.int .u64 0), (.bool false)] : Value).cells.toList 0 c = c from splice_all (by rw [R2.out]; rfl)] at hr7; have G1 := Aside0.mk hr7; have G2 := Aside0.mk (grown_new1 (row := some g) hg7); have G0 := Aside0.mk ((grown_new1 (row := none) hg7).block g hgw (by simp)); clear hr7 hg7) | ((with_reducible refine gate_dst (N := 27) rfl ?_); refine wpList_load_mid rfl 75 (.tmp 7) rfl wr.heap.size 0 rfl c _ (range_row (A := []) (B := []) (by rw [List.append_nil]; exact G1.out) rfl) Try.underlying75 rfl (by rw [R2.out]; exact HSZ.out) ?_) | (go_at_fn gf; have hcall := HP.out w7 c (World.grownBy.trans R4.out G2.out) hcin; rw [QQ.out] at hcall; refine hcall.mono ?_; clear hcall; rintro e w8 ⟨rfl, hb8⟩; have G3 := Aside0.mk hb8; clear hb8) | ((with_reducible refine gate_dst (N := 32) rfl ?_); refine wpList_load_mid rfl 75 (.tmp 7) rfl wr.heap.size 0 rfl c _ (range_row (A := []) (B := []) (by rw [List.append_nil, G3.out.block _ (Nat.lt_of_lt_of_le (Array.getElem?_eq_some_iff.1 G1.out).1 (Nat.le_refl _))]; exact G1.out) rfl) Try.underlying75 rfl (by rw [R2.out]; exact HSZ.out) ?_) | ((with_reducible refine gate_store (t := 75) (p := 33) (v := .tmp 32) rfl ?_); refine wpList_store_k rfl 75 (.tmp 33) (.tmp 32) rfl g (F.length * 4) (F.flatten ++ mid ++ ((css.drop jj).flatten ++ cur)) c 75 rfl rfl (by rw [G3.out.block g (Nat.lt_of_lt_of_le hgw G2.out.size), G0.out]; exact R3.out) R12.out (by rw [R2.out]; exact HSZ.out) R6.out ?_; intro w9 hr9 hg9; have G4 := Aside0.mk hr9; have G5 := Aside0.mk hg9; clear hr9 hg9))
            go_roundg (n - (jj + 1))
            case measure => omega
            case rel =>
              have e5 := R5.out
              rw [QQ.out] at e5
              simp only [Bool.false_eq_true, if_false] at e5
              refine ⟨jj + 1, (mid ++ c).drop c.length, by omega, by omega, by go_num, by rw [e5]; simp, ⟨?_⟩⟩
              rw [e5]
              refine ⟨by have := R13.out; simp; omega, by have := R13.out; simp only [List.length_drop, List.length_append, List.length_singleton, R7.out, R2.out]; omega, ?_, World.grownBy.trans (World.grownBy.trans (World.grownBy.trans R4.out G2.out) (grown_of_below G3.out)) G5.out⟩
              have := splice_keep F.flatten mid c ((css.drop (jj + 1)).flatten ++ cur)
              rw [R8.out] at this
              rw [G4.out, R9.out, List.append_assoc c, this]
              simp
        · have hltz : ¬ (jj : Int) < (n : Int) := by omega
          obtain ⟨hlt2, hml, hrow, hgr⟩ := HX.out
          obtain rfl : jj = n := by omega
          obtain ⟨F, hF⟩ : ∃ F, F = (css.take jj).filter (fun c => !p c) := ⟨_, rfl⟩
          have hFc : css.filter (fun c => !p c) = F := by rw [hF, HN.out, List.take_length]
          have hF1 : ∀ c ∈ F, c.length = 4 ∧ ∀ u ∈ c, u.oneCell' = true := fun c hc => H1.out c (List.mem_filter.1 (by rw [hFc]; exact hc)).1
          have hFl : F.flatten.length = F.length * 4 := flat_len (fun c hc => (hF1 c hc).1)
          rw [← hF] at hlt2 hml hrow
          rw [List.drop_eq_nil_of_le (by rw [← HN.out]; omega), List.flatten_nil, List.nil_append] at hrow
          rw [← hF]
          have R6 := Aside0.mk hFc
          have R1 := Aside0.mk hrow
          have R2 := Aside0.mk hgr
          have R3 := Aside0.mk hml
          have R4 := Aside0.mk hFl
          have R5 := Aside0.mk hF1
          have hb1 : ¬ (cap = F.length) := by have := HCP.out; have := HN.out; omega
          have hb2 : (F.length : Int) ≤ (jj : Int) := by omega
          have hb3 : F.length ≤ cap := by have := HCP.out; have := HN.out; omega
          have hb4 : 0 < jj - F.length := by omega
          have hfit : Aside0 (F.length * 4 + (jj - F.length) * 4 ≤ (F.flatten ++ mid ++ cur).length) := ⟨by simp only [List.length_append, hFl, hml]; omega⟩
          have hb5 : jj ≤ cap := by have := HCP.out; have := HN.out; omega
          clear HX hrow hgr hml hFl hF1 hF hFc hlt2 HI0 HST HH HB1
          go_wp2_with ((with_reducible refine gate_builtin (b := .clear) (xs := #[.tmp 38]) rfl ?_); refine wpList_clear_k rfl (.tmp 38) 23 75 (.agg #[(.string ⟨#[]⟩), (.int .u64 0), (.int .u64 0), (.bool false)]) 4 rfl Try.underlying23 infoHold rfl (by decide) g (F.length * 4) (jj - F.length) (cap - F.length) (F.flatten ++ mid ++ cur) 75 rfl hb4 R1.out hfit.out ?_; intro w9 zs hz hr9 hg9; have G4 := Aside0.mk hr9; have G5 := Aside0.mk hg9; have G6 := Aside0.mk hz; clear hr9 hg9 hz)
          go_ret
          rw [R6.out]
          refine ⟨_, rfl, Own.mk (cur := zs ++ cur) R5.out HBG.out ?_ rfl hb3 HCM.out ?_, World.grownBy.trans R2.out G5.out⟩
          · have := splice_end F.flatten mid cur zs (by rw [G6.out, R3.out])
            rw [R4.out] at this
            rw [G4.out, this]
          · have := HCL.out
            rw [← HN.out] at this
            simp only [List.length_append, G6.out, this]
            omega
set_option maxHeartbeats 1000000 in
set_option maxRecDepth 100000 in
theorem DeleteFuncOpen (p : List Value → Bool) (gf : Nat) (lb : Array Value) (eg : ∀ args w, (callFunc gf args).run Try.prog w = .ok (.enter gf args) w) (v : Value) (css : List (List Value)) (base : Nat) (w : World) (hv : Own 5 48 w base v css) (hbase : base ≤ w.heap.size)
    (hp : ∀ W c, w.grownBy W v.ownBlock → c ∈ css → Calls Try.prog gf (#[.agg c.toArray] ++ lb) W fun e W' => e = .returned (.bool (p c)) ∧ Below W.heap.size W W') :
    Calls Try.prog 63 #[v, .func (.func gf) #[] lb] w fun e w' => ∃ v', e = .returned v' ∧ Own 5 48 w' base v' (css.filter (fun c => !p c)) ∧ w.grownBy w' v.ownBlock := by
  have hidx : Calls Try.prog 82 #[v, .func (.func gf) #[] lb] w fun e w' => e = .returned (.int .i64 (findI p css)) ∧ Below w.heap.size w w' :=
    IndexFuncOpen (raw 5) rfl p gf lb eg v css w hv.sl (fun W x cs hb hx hK => by
      obtain ⟨rfl, _⟩ := hK
      exact hp W _ (grown_of_below hb) hx)
  by_cases hno : css.all (fun c => !p c)
  · have hm : findI p css = -1 := findI_miss p css (fun j hj => by rw [getElem!_pos css j hj]; simpa using List.all_eq_true.1 hno _ (List.getElem_mem hj))
    have hf : css.filter (fun c => !p c) = css := List.filter_eq_self.2 (fun c hc => List.all_eq_true.1 hno c hc)
    rw [hm] at hidx
    rw [hf]
    have HI := hidx
    have HV := Aside0.mk hv
    clear hidx hp hno hm hf hv
    go_enter Try.func63, Try.ntmps63
    go_wp2_with (go_at_call 82; refine HI.mono ?_; rintro e w' ⟨rfl, hb'⟩)
    go_ret
    exact ⟨_, rfl, HV.out.below hb', grown_of_below hb'⟩
  · rcases hv.cases with ⟨rfl, rfl⟩ | ⟨g, cap, cur, rfl, hbg, hgw, hh, hcp, hcm, hcl⟩
    · simp at hno
    · have h1 := hv.1
      have hk1 : ∀ c ∈ css, c.length = 5 := fun c hc => (h1 c hc).1
      obtain ⟨n, hn⟩ : ∃ n, n = css.length := ⟨_, rfl⟩
      have hhit : ∃ ii, ii < n ∧ findI p css = (ii : Int) ∧ p css[ii]! = true ∧ ∀ j, j < ii → p css[j]! = false := by
        have hx : ¬ css.findIdx p = css.length := fun hx => hno (by
          rw [List.all_eq_true]
          intro c hc
          have := List.findIdx_eq_length.1 hx c hc
          simpa using this)
        have hlt : css.findIdx p < css.length := Nat.lt_of_le_of_ne List.findIdx_le_length hx
        refine ⟨css.findIdx p, by omega, by unfold findI; rw [if_pos hlt], by rw [getElem!_pos css _ hlt]; exact List.findIdx_getElem, fun j hj => ?_⟩
        rw [getElem!_pos css j (by omega)]
        simpa using List.not_of_lt_findIdx hj
      obtain ⟨ii, hii, hfi, hpi, hbefore⟩ := hhit
      rw [hfi] at hidx
      have hff : ∀ j, j ≤ ii → (css.take j).filter (fun c => !p c) = css.take j := fun j hj => List.filter_eq_self.2 (fun c hc => by
        obtain ⟨m, hm⟩ := List.mem_iff_getElem?.1 hc
        rw [List.getElem?_take] at hm
        split at hm
        · have hmj : m < css.length := (List.getElem?_eq_some_iff.1 hm).1
          have := hbefore m (by omega)
          rw [getElem!_pos css m hmj, (List.getElem?_eq_some_iff.1 hm).2] at this
          simp [this]
        · cases hm)
      -- one element more
      have hstep : ∀ j, j < n → (css.take (j + 1)).filter (fun c => !p c) = (css.take j).filter (fun c => !p c) ++ if p css[j]! then [] else [css[j]!] := fun j hj => by
        rw [List.take_succ_eq_append_getElem (by omega), List.filter_append, getElem!_pos css j (by omega)]
        cases hpj : p css[j] <;> simp [hpj]
      have hdrop : ∀ j, j < n → (css.drop j).flatten = css[j]! ++ (css.drop (j + 1)).flatten := fun j hj => by
        rw [List.drop_eq_getElem_cons (by omega), List.flatten_cons, getElem!_pos css j (by omega)]
      have hel : ∀ j, j < n → css[j]! ∈ css := fun j hj => by rw [getElem!_pos css j (by omega)]; exact List.getElem_mem (by omega)
      have hfl : ∀ j, ((css.take j).filter (fun c => !p c)).flatten.length = ((css.take j).filter (fun c => !p c)).length * 5 := fun j => flat_len (fun c hc => hk1 c (List.mem_of_mem_take (List.mem_filter.1 hc).1))
      have hfle : ∀ j, j ≤ n → ((css.take j).filter (fun c => !p c)).length ≤ j := fun j hj => Nat.le_trans (List.length_filter_le _ _) (by rw [List.length_take]; omega)
      have hdl : ∀ j, j ≤ n → (css.drop j).flatten.length = (n - j) * 5 := fun j hj => by rw [flat_len (fun c hc => hk1 c (List.mem_of_mem_drop hc)), List.length_drop, hn]
      have hfi1 : (css.take (ii + 1)).filter (fun c => !p c) = css.take ii := by rw [hstep ii hii, hff ii (Nat.le_refl _), hpi]; simp
      have hst0 : w.heap[g]? = some (.cells (((css.take (ii + 1)).filter (fun c => !p c)).flatten ++ css[ii]! ++ ((css.drop (ii + 1)).flatten ++ cur)).toArray 48 (0, 0)) := by
        rw [hh, hfi1, show css.flatten = (css.take ii).flatten ++ (css.drop ii).flatten by rw [← List.flatten_append, List.take_append_drop], hdrop ii hii]
        simp
      have hi0 : ((css.take (ii + 1)).filter (fun c => !p c)).length = ii := by rw [hfi1, List.length_take]; omega
      rw [← hn] at hidx
      have HI := hidx
      have HP := Aside0.mk hp
      have H1 := Aside0.mk h1
      have HS := Aside0.mk hstep
      have HD := Aside0.mk hdrop
      have HE := Aside0.mk hel
      have HFL := Aside0.mk hfl
      have HFE := Aside0.mk hfle
      have HDL := Aside0.mk hdl
      have HH := Aside0.mk hh
      have HST := Aside0.mk hst0
      have HI0 := Aside0.mk hi0
      have HII := Aside0.mk hii
      have HCL := Aside0.mk hcl
      have HCP := Aside0.mk hcp
      have HCM := Aside0.mk hcm
      have HBG := Aside0.mk hbg
      have HGW := Aside0.mk hgw
      have HN := Aside0.mk hn
      have HIL : Aside0 (css[ii]!.length = 5) := ⟨hk1 _ (hel ii hii)⟩
      have hsz : (Try.prog.info? 48).map (·.size) = some 5 := by kernel_rfl
      have HSZ := Aside0.mk hsz
      have hm63 : (n : Int) ≤ 9223372036854775807 := by unfold maxLen at hcm; omega
      rw [← hn]
      clear hidx hp hno hv h1 hk1 hfi hpi hbefore hff hstep hdrop hel hfl hfle hdl hfi1 hst0 hi0 hh hcl hcp hcm hbg hgw hsz hbase hn
      go_enter Try.func63, Try.ntmps63
      go_wp2_with (go_at_call 82; refine HI.mono ?_; rintro e w1 ⟨rfl, hb1⟩)
      have HB1 := Aside0.mk hb1
      clear HI hb1 hii
      go_loopg [5, 6] n (fun gg s5 s6 wr => ∃ (jj : Nat) (mid : List Value), jj ≤ n ∧ n - jj ≤ gg ∧ s6 = .int .i64 jj ∧ s5 = .int .i64 (((css.take jj).filter (fun c => !p c)).length : Nat) ∧ Aside0 (((css.take jj).filter (fun c => !p c)).length < jj ∧ mid.length = (jj - ((css.take jj).filter (fun c => !p c)).length) * 5 ∧ wr.heap[g]? = some (.cells (((css.take jj).filter (fun c => !p c)).flatten ++ mid ++ ((css.drop jj).flatten ++ cur)).toArray 48 (0, 0)) ∧ w.grownBy wr (some g)))
      case atStart => exact ⟨ii + 1, css[ii]!, by have := HII.out; omega, by omega, by go_num, by rw [HI0.out], ⟨by rw [HI0.out]; omega, by rw [HI0.out, HIL.out]; omega, by rw [HB1.out.block g HGW.out]; exact HST.out, grown_of_below HB1.out⟩⟩
      case round =>
        obtain ⟨jj, mid, hjn, hg, rfl, rfl, HX⟩ := hrel
        by_cases hlt : jj < n
        · have hltz : (jj : Int) < (n : Int) := by omega
          obtain ⟨hlt2, hml, hrow, hgr⟩ := HX.out
          obtain ⟨F, hF⟩ : ∃ F, F = (css.take jj).filter (fun c => !p c) := ⟨_, rfl⟩
          rw [← hF] at hlt2 hml hrow
          have hcl := (H1.out _ (HE.out jj hlt)).1
          have hone := (H1.out _ (HE.out jj hlt)).2
          have hFl : F.flatten.length = F.length * 5 := by rw [hF]; exact HFL.out jj
          have hrg : wr.rangeAt g (jj * 5) css[jj]! := by
            rw [HD.out jj hlt, List.append_assoc css[jj]!] at hrow
            exact range_row hrow (by rw [List.length_append, hFl, hml, ← Nat.add_mul]; congr 1; omega)
          have hst := HS.out jj hlt
          rw [← hF] at hst
          have hgw : g < wr.heap.size := Nat.lt_of_lt_of_le HGW.out hgr.size
          rw [← hF]
          obtain ⟨c, hc⟩ : ∃ c, c = css[jj]! := ⟨_, rfl⟩
          have hcin : c ∈ css := by rw [hc]; exact HE.out jj hlt
          rw [← hc] at hcl hone hrg hst
          have hD1 := HD.out jj hlt
          rw [← hc] at hD1
          have R1 := Aside0.mk hrg
          have R2 := Aside0.mk hcl
          have R3 := Aside0.mk hrow
          have R4 := Aside0.mk hgr
          have R5 := Aside0.mk hst
          have R6 := Aside0.mk hone
          have R7 := Aside0.mk hml
          have R8 := Aside0.mk hFl
          have R9 := Aside0.mk hD1
          have R10 := Aside0.mk hc
          have R11 := Aside0.mk hF
          have hFn : (F.length : Int) < (n : Int) := by omega
          have R12 : Aside0 (F.length * 5 + c.length ≤ (F.flatten ++ mid ++ ((css.drop jj).flatten ++ cur)).length) := ⟨by simp only [List.length_append, hFl, hml, hcl, HDL.out jj hjn]; omega⟩
          have R13 := Aside0.mk hlt2
          clear HX hlt2 hrg hcl hrow hgr hst hone hml hFl hD1 hc hF HI0 HST HH HB1
          cases hq : p c with
          | true =>
            have QQ := Aside0.mk hq
            clear hq
            go_wp2_with (first | ((with_reducible refine gate_dst (N := 25) rfl ?_); refine wpList_load_mid rfl 48 (.tmp 24) rfl g (jj * 5) rfl c _ R1.out Try.underlying48 rfl (by rw [R2.out]; exact HSZ.out) ?_) | ((with_reducible refine gate_store (t := 48) (p := 7) (v := .tmp 25) rfl ?_); refine wpList_store_k rfl 48 (.tmp 7) (.tmp 25) rfl wr.heap.size 0 (.agg #[(.int .u64 0), (.int .u64 0), (.bool false), (.bool false), (.slice none 0 0)] : Value).cells.toList c 48 rfl rfl (heap_alloc_new wr _) (by rw [R2.out]; decide) (by rw [R2.out]; exact HSZ.out) R6.out ?_; intro w7 hr7 hg7; rw [show splice (.agg #[(.int .u64 0), (.int .u64 0), (.bool false), (.bool false), (.slice none 0 0)] : Value).cells.toList 0 c = c from splice_all (by rw [R2.out]; rfl)] at hr7; have G1 := Aside0.mk hr7; have G2 := Aside0.mk (grown_new1 (row := some g) hg7); have G0 := Aside0.mk ((grown_new1 (row := none) hg7).block g hgw (by simp)); clear hr7 hg7) | ((with_reducible refine gate_dst (N := 27) rfl ?_); refine wpList_load_mid rfl 48 (.tmp 7) rfl wr.heap.size 0 rfl c _ (range_row (A := []) (B := []) (by rw [List.append_nil]; exact G1.out) rfl) Try.underlying48 rfl (by rw [R2.out]; exact HSZ.out) ?_) | (go_at_fn gf; have hcall := HP.out w7 c (World.grownBy.trans R4.out G2.out) hcin; rw [QQ.out] at hcall; refine hcall.mono ?_; clear hcall; rintro e w8 ⟨rfl, hb8⟩; have G3 := Aside0.mk hb8; clear hb8))
            go_roundg (n - (jj + 1))
            case measure => omega
            case rel =>
              have e5 := R5.out
              rw [QQ.out, if_pos rfl, List.append_nil] at e5
              refine ⟨jj + 1, mid ++ c, by omega, by omega, by go_num, by rw [e5], ⟨?_⟩⟩
              rw [e5]
              refine ⟨by have := R13.out; omega, by have := R13.out; rw [List.length_append, R7.out, R2.out]; omega, ?_, World.grownBy.trans (World.grownBy.trans R4.out G2.out) (grown_of_below G3.out)⟩
              rw [G3.out.block g (Nat.lt_of_lt_of_le hgw G2.out.size), G0.out, R3.out, R9.out]
              simp
          | false =>
            have QQ := Aside0.mk hq
            clear hq
            go_wp2_with (first | ((with_reducible refine gate_dst (N := 25) rfl ?_); refine wpList_load_mid rfl 48 (.tmp 24) rfl g (jj * 5) rfl c _ R1.out Try.underlying48 rfl (by rw [R2.out]; exact HSZ.out) ?_) | ((with_reducible refine gate_store (t := 48) (p := 7) (v := .tmp 25) rfl ?_); refine wpList_store_k rfl 48 (.tmp 7) (.tmp 25) rfl wr.heap.size 0 (.agg #[(.int .u64 0), (.int .u64 0), (.bool false), (.bool false), (.slice none 0 0)] : Value).cells.toList c 48 rfl rfl (heap_alloc_new wr _) (by rw [R2.out]; decide) (by rw [R2.out]; exact HSZ.out) R6.out ?_; intro w7 hr7 hg7; rw [show splice (.agg #[(.int .u64 0), (.int .u64 0), (.bool false), (.bool false), (.slice none 0 0)] : Value).cells.toList 0 c = c from splice_all (by rw [R2.out]; rfl)] at hr7; have G1 := Aside0.mk hr7; have G2 := Aside0.mk (grown_new1 (row := some g) hg7); have G0 := Aside0.mk ((grown_new1 (row := none) hg7).block g hgw (by simp)); clear hr7 hg7) | ((with_reducible refine gate_dst (N := 27) rfl ?_); refine wpList_load_mid rfl 48 (.tmp 7) rfl wr.heap.size 0 rfl c _ (range_row (A := []) (B := []) (by rw [List.append_nil]; exact G1.out) rfl) Try.underlying48 rfl (by rw [R2.out]; exact HSZ.out) ?_) | (go_at_fn gf; have hcall := HP.out w7 c (World.grownBy.trans R4.out G2.out) hcin; rw [QQ.out] at hcall; refine hcall.mono ?_; clear hcall; rintro e w8 ⟨rfl, hb8⟩; have G3 := Aside0.mk hb8; clear hb8) | ((with_reducible refine gate_dst (N := 32) rfl ?_); refine wpList_load_mid rfl 48 (.tmp 7) rfl wr.heap.size 0 rfl c _ (range_row (A := []) (B := []) (by rw [List.append_nil, G3.out.block _ (Nat.lt_of_lt_of_le (Array.getElem?_eq_some_iff.1 G1.out).1 (Nat.le_refl _))]; exact G1.out) rfl) Try.underlying48 rfl (by rw [R2.out]; exact HSZ.out) ?_) | ((with_reducible refine gate_store (t := 48) (p := 33) (v := .tmp 32) rfl ?_); refine wpList_store_k rfl 48 (.tmp 33) (.tmp 32) rfl g (F.length * 5) (F.flatten ++ mid ++ ((css.drop jj).flatten ++ cur)) c 48 rfl rfl (by rw [G3.out.block g (Nat.lt_of_lt_of_le hgw G2.out.size), G0.out]; exact R3.out) R12.out (by rw [R2.out]; exact HSZ.out) R6.out ?_; intro w9 hr9 hg9; have G4 := Aside0.mk hr9; have G5 := Aside0.mk hg9; clear hr9 hg9))
            go_roundg (n - (jj + 1))
            case measure => omega
            case rel =>
              have e5 := R5.out
              rw [QQ.out] at e5
              simp only [Bool.false_eq_true, if_false] at e5
              refine ⟨jj + 1, (mid ++ c).drop c.length, by omega, by omega, by go_num, by rw [e5]; simp, ⟨?_⟩⟩
              rw [e5]
              refine ⟨by have := R13.out; simp; omega, by have := R13.out; simp only [List.length_drop, List.length_append, List.length_singleton, R7.out, R2.out]; omega, ?_, World.grownBy.trans (World.grownBy.trans (World.grownBy.trans R4.out G2.out) (grown_of_below G3.out)) G5.out⟩
              have := splice_keep F.flatten mid c ((css.drop (jj + 1)).flatten ++ cur)
              rw [R8.out] at this
              rw [G4.out, R9.out, List.append_assoc c, this]
              simp
        · have hltz : ¬ (jj : Int) < (n : Int) := by omega
          obtain ⟨hlt2, hml, hrow, hgr⟩ := HX.out
          obtain rfl : jj = n := by omega
          obtain ⟨F, hF⟩ : ∃ F, F = (css.take jj).filter (fun c => !p c) := ⟨_, rfl⟩
          have hFc : css.filter (fun c => !p c) = F := by rw [hF, HN.out, List.take_length]
          have hF1 : ∀ c ∈ F, c.length = 5 ∧ ∀ u ∈ c, u.oneCell' = true := fun c hc => H1.out c (List.mem_filter.1 (by rw [hFc]; exact hc)).1
          have hFl : F.flatten.length = F.length * 5 := flat_len (fun c hc => (hF1 c hc).1)
          rw [← hF] at hlt2 hml hrow
          rw [List.drop_eq_nil_of_le (by rw [← HN.out]; omega), List.flatten_nil, List.nil_append] at hrow
          rw [← hF]
          have R6 := Aside0.mk hFc
          have R1 := Aside0.mk hrow
          have R2 := Aside0.mk hgr
          have R3 := Aside0.mk hml
          have R4 := Aside0.mk hFl
          have R5 := Aside0.mk hF1
          have hb1 : ¬ (cap = F.length) := by have := HCP.out; have := HN.out; omega
          have hb2 : (F.length : Int) ≤ (jj : Int) := by omega
          have hb3 : F.length ≤ cap := by have := HCP.out; have := HN.out; omega
          have hb4 : 0 < jj - F.length := by omega
          have hfit : Aside0 (F.length * 5 + (jj - F.length) * 5 ≤ (F.flatten ++ mid ++ cur).length) := ⟨by simp only [List.length_append, hFl, hml]; omega⟩
          have hb5 : jj ≤ cap := by have := HCP.out; have := HN.out; omega
          clear HX hrow hgr hml hFl hF1 hF hFc hlt2 HI0 HST HH HB1
          go_wp2_with ((with_reducible refine gate_builtin (b := .clear) (xs := #[.tmp 38]) rfl ?_); refine wpList_clear_k rfl (.tmp 38) 24 48 (.agg #[(.int .u64 0), (.int .u64 0), (.bool false), (.bool false), (.slice none 0 0)]) 5 rfl Try.underlying24 infoOpen rfl (by decide) g (F.length * 5) (jj - F.length) (cap - F.length) (F.flatten ++ mid ++ cur) 48 rfl hb4 R1.out hfit.out ?_; intro w9 zs hz hr9 hg9; have G4 := Aside0.mk hr9; have G5 := Aside0.mk hg9; have G6 := Aside0.mk hz; clear hr9 hg9 hz)
          go_ret
          rw [R6.out]
          refine ⟨_, rfl, Own.mk (cur := zs ++ cur) R5.out HBG.out ?_ rfl hb3 HCM.out ?_, World.grownBy.trans R2.out G5.out⟩
          · have := splice_end F.flatten mid cur zs (by rw [G6.out, R3.out])
            rw [R4.out] at this
            rw [G4.out, this]
          · have := HCL.out
            rw [← HN.out] at this
            simp only [List.length_append, G6.out, this]
            omega
end Go.Proofs.Ytmcgcdpiceikeaa
end
