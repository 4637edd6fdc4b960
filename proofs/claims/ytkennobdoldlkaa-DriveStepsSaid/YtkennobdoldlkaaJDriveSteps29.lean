/- Joined texts of the claim DriveSteps (part 29): contracts of functions and plain laws. -/
import Derived.Test.YtkennobdoldlkaaJDriveSteps28
set_option linter.unusedVariables false
set_option linter.unusedSimpArgs false
section
namespace Go.Proofs.Ytkennobdoldlkaa.PAll
open Go.RowKit Go.Proofs.YtkennobdoldlkaaW.PrintWords Go.Proofs.Ytkennobdoldlkaa
def putOf (s : S53) : S74 := ⟨s.f1, s.f2, s.f4⟩
def keyIs (key : ByteArray) (y : S74) : Bool := y.f0.toList == key.toList
def putU (out : List S74) (s : S53) : List S74 := if 0 ≤ findI (keyIs s.f1) out then out.set (findI (keyIs s.f1) out).toNat (putOf s) else out ++ [putOf s]
def putsV (l : List S53) (g : Int) : List S74 := (l.filter (fun s => s.f0 == g && s.f3)).foldl putU []
theorem putsV_take (l : List S53) (g : Int) (j : Nat) (hj : j < l.length) : putsV (l.take (j + 1)) g = if ((l[j]!).f0 == g && (l[j]!).f3) = true then putU (putsV (l.take j) g) l[j]! else putsV (l.take j) g := by
  unfold putsV
  rw [List.take_succ_eq_append_getElem hj, List.filter_append, List.foldl_append, getElem!_pos l j hj, List.filter_cons]
  split <;> rfl
theorem putU_len (out : List S74) (s : S53) : (putU out s).length ≤ out.length + 1 := by
  unfold putU
  split
  · rw [List.length_set]; omega
  · simp
theorem puts1 (B : Nat) (key : ByteArray) (x : S74) (W : World) (hB : W.cell? ⟨B, 1, none⟩ = some (.string key)) :
    Calls Try.prog 39 #[.agg (enc74 x).toArray, .pointer (some ⟨B, 0, none⟩)] W fun e W' => e = .returned (.bool (keyIs key x)) ∧ Below W.heap.size W W' := by
  unfold enc74
  have hlt := World.block_lt_of_cell? W _ hB
  have hc : (W.alloc (.cells #[.string x.f0, .string x.f1, .bool x.f2] 74)).cell? ⟨B, 1, none⟩ = some (.string key) := (Below.cell ((Below.refl _ W).alloc (Nat.le_refl _) _) hlt).trans hB
  go_enter Try.func39, Try.ntmps39
  go_wp2
  go_ret
  exact ⟨rfl, (Below.refl _ W).alloc (Nat.le_refl _) _⟩
theorem own_push20 {P : Program} {k : Nat} {e t : TypeId} {z : Value} {bytes base : Nat} {W : World} {v : Value} {css : List (List Value)} {c : List Value} {ops : Array Oper} {rest : List Oper} {o : Oper} {a : Act} {Q : Exit → Act → World → Prop} (hgd : o.guard = none) (s x : Operand)
    (ho : o.op = .call { callee := .builtin .append, args := #[s, x], argTypes := #[t, t] }) (ht : P.underlying t = some (.slice e)) (hinfo : (P.info? e).map (fun i => (i.zero, i.size, i.bytes)) = some (some z, k, bytes)) (hz : z.cells.size = k) (hs0 : 0 < k) (hb0 : 0 < bytes)
    (hs : a.eval s = v) (hx : a.eval x = .slice (some ⟨W.heap.size, 0, none⟩) 1 1) (hc : c.length = k ∧ ∀ u ∈ c, u.oneCell' = true) (HO : Own k e W base v css) (hbase : base ≤ W.heap.size) (hl : (css.length + 1) * bytes ≤ 140737488355328)
    (h : ∀ v1 w1, Own k e w1 base v1 (css ++ [c]) → W.grownBy w1 v.ownBlock → wpList P ops Q rest (a.put o.dst v1) w1) :
    wpList P ops Q (o :: rest) a (W.alloc (.cells c.toArray e)) := by
  refine Kd.R_append (raw k) (w0 := W) base hgd s x t e z bytes ho ht hinfo hz hs0 hb0 v css c c (fun _ => True) (fun _ => False) hs hx ⟨rfl, hc⟩ (fun _ h => h.elim) (fun _ _ => trivial) HO.R (Below.refl base W) hbase hl ?_
  intro v1 w1 ho1 hb1 hg1 _
  exact h v1 w1 (Own.of_R ho1) hg1
theorem own_three {e base : Nat} {w : World} {g n cap : Nat} {l : List S74} (h : Own 3 e w base (.slice (some ⟨g, 0, none⟩) n cap) (l.map enc74)) (i : Nat) (hi : i < l.length) (x : S74) :
    Own 3 e (((w.setCell ⟨g, i * 3, none⟩ (.string x.f0)).setCell ⟨g, i * 3 + 1, none⟩ (.string x.f1)).setCell ⟨g, i * 3 + 2, none⟩ (.bool x.f2)) base (.slice (some ⟨g, 0, none⟩) n cap) ((l.set i x).map enc74) ∧ w.grownBy (((w.setCell ⟨g, i * 3, none⟩ (.string x.f0)).setCell ⟨g, i * 3 + 1, none⟩ (.string x.f1)).setCell ⟨g, i * 3 + 2, none⟩ (.bool x.f2)) (some g) := by
  obtain ⟨h1, g1⟩ := h.store i 0 (by rw [List.length_map]; exact hi) (by omega) (.string x.f0) rfl
  obtain ⟨h2, g2⟩ := h1.store i 1 (by rw [List.length_set, List.length_map]; exact hi) (by omega) (.string x.f1) rfl
  obtain ⟨h3, g3⟩ := h2.store i 2 (by rw [List.length_set, List.length_set, List.length_map]; exact hi) (by omega) (.bool x.f2) rfl
  refine ⟨?_, (g1.trans g2).trans g3⟩
  have e : (((l.map enc74).set i (((l.map enc74)[i]!).set 0 (.string x.f0))).set i ((((l.map enc74).set i (((l.map enc74)[i]!).set 0 (.string x.f0)))[i]!).set 1 (.string x.f1))) = (l.map enc74).set i (((((l.map enc74)[i]!).set 0 (.string x.f0))).set 1 (.string x.f1)) := by
    rw [List.set_set, getElem!_pos _ i (by rw [List.length_set, List.length_map]; exact hi), List.getElem_set_self]
  rw [e] at h3
  have e2 : ((l.map enc74).set i (((((l.map enc74)[i]!).set 0 (.string x.f0))).set 1 (.string x.f1))).set i ((((l.map enc74).set i (((((l.map enc74)[i]!).set 0 (.string x.f0))).set 1 (.string x.f1)))[i]!).set 2 (.bool x.f2)) = (l.set i x).map enc74 := by
    rw [List.set_set, getElem!_pos _ i (by rw [List.length_set, List.length_map]; exact hi), List.getElem_set_self, List.map_set, getElem!_pos _ i (by rw [List.length_map]; exact hi), List.getElem_map]
    rfl
  rw [e2] at h3
  exact h3
theorem cells_520 {w : World} {b : Nat} {t : TypeId} {a0 a1 a2 a3 a4 : Value} (h : w.heap[b]? = some (.cells #[a0, a1, a2, a3, a4] t (0, 0))) : w.cell? ⟨b, 0, none⟩ = some a0 ∧ w.cell? ⟨b, 1, none⟩ = some a1 ∧ w.cell? ⟨b, 2, none⟩ = some a2 ∧ w.cell? ⟨b, 3, none⟩ = some a3 ∧ w.cell? ⟨b, 4, none⟩ = some a4 :=
  ⟨qz30 (cs := [a0, a1, a2, a3, a4]) h 0, qz30 (cs := [a0, a1, a2, a3, a4]) h 1, qz30 (cs := [a0, a1, a2, a3, a4]) h 2, qz30 (cs := [a0, a1, a2, a3, a4]) h 3, qz30 (cs := [a0, a1, a2, a3, a4]) h 4⟩
theorem findI_range20 {α : Type} (p : α → Bool) (l : List α) (h : 0 ≤ findI p l) : ∃ i : Nat, i < l.length ∧ findI p l = (i : Int) := by
  unfold findI at *
  by_cases c : l.findIdx p < l.length
  · rw [if_pos c]; exact ⟨_, c, rfl⟩
  · rw [if_neg c] at h; omega
theorem qz16 {w W : World} {b : Nat} {o : Obj} (hb : Below w.heap.size w W) (h : w.heap[b]? = some o) : W.heap[b]? = some o := (hb.block b (Array.getElem?_eq_some_iff.1 h).1).trans h
set_option maxHeartbeats 1600000 in
set_option maxRecDepth 100000 in
theorem puts_walk (ta ti : Int) (A : Option Addr) (c : Nat) (l : List S53) (g : Int) (w : World) (hr : Kd.C k53 w A l.length l) (hc : l.length ≤ c) (hl : l.length ≤ 3000000000000) :
    Calls Try.prog 21 #[.agg #[.int .u64 ta, .int .u64 ti, .slice A l.length c], .int .u64 g] w fun e w' => ∃ v0_ : Value, e = .returned v0_ ∧ Kd.R k74 74 w' w.heap.size (fun _ => True) v0_ (putsV l g) ∧ Below w.heap.size w w' := by
  have HR := qza.mk hr
  clear hr
  go_enter Try.func21, Try.ntmps21
  go_wp2
  go_loopg [5, 13] l.length (fun gg s5 s13 wr => ∃ (jj : Nat) (out : List S74), jj ≤ l.length ∧ l.length - jj ≤ gg ∧ s13 = .int .i64 jj ∧ out.length ≤ jj ∧ qza (out = putsV (l.take jj) g) ∧ qza (Below w.heap.size w wr) ∧ qza (Own 3 74 wr w.heap.size s5 (out.map enc74)))
  case atStart => exact ⟨0, [], Nat.zero_le _, by omega, rfl, Nat.le_refl _, ⟨rfl⟩, ⟨(Below.refl _ _).alloc (Nat.le_refl _) _⟩, ⟨Own.nil _ _ _ _⟩⟩
  case round =>
    obtain ⟨jj, out, hjj, hgk, rfl, hol, HE, BW, HO⟩ := hrel
    by_cases hlt : jj < l.length
    · have hltz : (jj : Int) < (l.length : Int) := by omega
      have hjz : (0 : Int) ≤ (jj : Int) := by omega
      obtain ⟨b, o, rfl, hx0, hx1, hx2, hx3, hx4⟩ := stepRow (Kd.C_below HR.out BW.out) jj hlt
      have HT := qza.mk (putsV_take l g jj hlt)
      rw [← HE.out] at HT
      clear HE
      generalize l[jj]! = x at *
      obtain ⟨xa, xb, xc, xd, xe⟩ := x
      dsimp only at *
      go_upto_region 5 with (fail)
      have HX5 := qza.mk (heap_alloc_new wr (.cells #[.int .u64 xa, .string xb, .string xc, .bool xd, .bool xe] 53))
      have BW5 := qza.mk (BW.out.alloc BW.out.size (.cells #[.int .u64 xa, .string xb, .string xc, .bool xd, .bool xe] 53))
      have HO5 := qza.mk (HO.out.below ((Below.refl wr.heap.size wr).alloc (Nat.le_refl _) (.cells #[.int .u64 xa, .string xb, .string xc, .bool xd, .bool xe] 53)))
      have hq : w.heap.size ≤ wr.heap.size := BW.out.size
      clear BW HO hx0 hx1 hx2 hx3 hx4
      generalize wr.alloc (.cells #[.int .u64 xa, .string xb, .string xc, .bool xd, .bool xe] 53) = w5 at *
      generalize wr.heap.size = q at *
      obtain ⟨hy0, hy1, hy2, hy3, hy4⟩ := cells_520 HX5.out
      by_cases hgrp : xa = g
      · subst hgrp
        cases xd with
        | false =>
          go_wp2
          go_roundg (l.length - (jj + 1))
          case measure => omega
          case rel => exact ⟨jj + 1, out, by omega, by omega, by go_num, by omega, ⟨by rw [HT.out, beq_self_eq_true]; rfl⟩, BW5, HO5⟩
        | true =>
          have ht : putsV (l.take (jj + 1)) xa = putU out ⟨xa, xb, xc, true, xe⟩ := by rw [HT.out, beq_self_eq_true]; rfl
          have HT2 := qza.mk ht
          clear ht HT
          go_upto_region 7 with (fail)
          have HX7 := qza.mk (heap_alloc_new w5 (.cells #[.string xb, .string xc, .bool xe] 74))
          have HB7 := qza.mk ((Below.refl w5.heap.size w5).alloc (Nat.le_refl _) (.cells #[.string xb, .string xc, .bool xe] 74))
          have hq7 : w.heap.size ≤ w5.heap.size := BW5.out.size
          have BW7 := qza.mk (BW5.out.trans (HB7.out.mono hq7))
          have HO7 := qza.mk (HO5.out.below HB7.out)
          have hk7 : (w5.alloc (.cells #[.string xb, .string xc, .bool xe] 74)).cell? ⟨q, 1, none⟩ = some (.string xb) := (HB7.out.cell (World.block_lt_of_cell? _ _ hy1)).trans hy1
          clear BW5 HO5 HB7 hy0 hy1 hy2 hy3 hy4 HX5
          generalize w5.alloc (.cells #[.string xb, .string xc, .bool xe] 74) = w7 at *
          generalize w5.heap.size = q7 at *
          have HP := qza.mk (show Pred Try.prog 39 #[.pointer (some ⟨q, 0, none⟩)] (fun cs => .agg cs.toArray) k74 w7 out (keyIs xb) from fun W x cs hb _ hK => by
            obtain rfl := flat74.openK _ _ _ hK
            exact puts1 q xb x W ((hb.cell (World.block_lt_of_cell? _ _ hk7)).trans hk7))
          have HSL := qza.mk (flat74.ofsl HO7.out.sl)
          clear hk7
          have hC := IndexFuncPut k74 rfl (keyIs xb) 39 #[.pointer (some ⟨q, 0, none⟩)] (enters_of Try.func39 (by kernel_rfl) rfl) u5 out w7 HSL.out HP.out
          clear HSL HP
          by_cases hf : 0 ≤ findI (keyIs xb) out
          · obtain ⟨i, hi, hfi⟩ := findI_range20 (keyIs xb) out hf
            have hp : putU out ⟨xa, xb, xc, true, xe⟩ = out.set i ⟨xb, xc, xe⟩ := by
              unfold putU
              rw [if_pos (show 0 ≤ findI (keyIs xb) out from hf)]
              show out.set (findI (keyIs xb) out).toNat _ = _
              rw [hfi]
              rfl
            have HPU := qza.mk hp
            rw [hfi] at hC
            have hiz : (0 : Int) ≤ (i : Int) := by omega
            have hiz2 : (i : Int) < (out.length : Int) := by omega
            clear hf hfi hp
            rcases HO7.out.cases with ⟨_, hnil⟩ | ⟨gb, cap, cur, hv, hgb, hglt, _, _, _, _⟩
            · exfalso
              have : out = [] := by simpa using hnil
              subst this
              simp at hi
            · rw [List.length_map] at hv
              subst hv
              have HC := qza.mk hC
              clear hC
              go_upto_region 9 with (go_at_call 38; with_reducible refine (HC.out).mono ?_; rintro e w8 ⟨rfl, hb8⟩; have HB8 := qza.mk hb8; clear hb8)
              have HO8 := qza.mk (HO7.out.below HB8.out)
              obtain ⟨hz0, hz1, hz2⟩ := cells3 (qz16 HB8.out HX7.out)
              obtain ⟨hc0, hg0, hs0⟩ := HO8.out.get i 0 (by rw [List.length_map]; exact hi) (by omega)
              obtain ⟨hc1, hg1, _⟩ := HO8.out.get i 1 (by rw [List.length_map]; exact hi) (by omega)
              obtain ⟨hc2, hg2, _⟩ := HO8.out.get i 2 (by rw [List.length_map]; exact hi) (by omega)
              rw [Nat.add_zero] at hc0 hg0
              have BW8 := qza.mk (BW7.out.trans (HB8.out.mono BW7.out.size))
              have H3 := qza.mk (own_three HO8.out i hi ⟨xb, xc, xe⟩)
              clear HO8 HO7 HC HX7
              go_wp2
              go_roundg (l.length - (jj + 1))
              case measure => omega
              case rel => exact ⟨jj + 1, out.set i ⟨xb, xc, xe⟩, by omega, by omega, by go_num, by rw [List.length_set]; omega, ⟨by rw [HT2.out, HPU.out]⟩, ⟨BW8.out.grown H3.out.2 BW8.out.size (fun k e => by cases e; exact hgb)⟩, ⟨H3.out.1⟩⟩
          · have hfi : findI (keyIs xb) out = -1 := by
              unfold findI at hf ⊢
              split at hf
              · omega
              · rename_i h; rw [if_neg h]
            have hp : putU out ⟨xa, xb, xc, true, xe⟩ = out ++ [⟨xb, xc, xe⟩] := by
              unfold putU
              rw [if_neg (show ¬ 0 ≤ findI (keyIs xb) out from hf)]
              rfl
            have HPU := qza.mk hp
            rw [hfi] at hC
            have HC := qza.mk hC
            clear hC hf hfi hp
            go_upto_region 10 with (go_at_call 38; with_reducible refine (HC.out).mono ?_; rintro e w8 ⟨rfl, hb8⟩; have HB8 := qza.mk hb8; clear hb8)
            have HO8 := qza.mk (HO7.out.below HB8.out)
            obtain ⟨hz0, hz1, hz2⟩ := cells3 (qz16 HB8.out HX7.out)
            have BW8 := qza.mk (BW7.out.trans (HB8.out.mono BW7.out.size))
            clear HO7 HC HX7
            go_wp2_with (at_builtin; refine own_push20 rfl (.tmp 42) (.tmp 44) rfl Try.underlying35 infoPut rfl (by decide) (by decide) rfl rfl (c := [.string xb, .string xc, .bool xe]) ⟨rfl, by simp [Value.oneCell']⟩ HO8.out BW8.out.size (by rw [List.length_map]; omega) ?_; intro v9 w9 ho9 hg9; have HO9 := qza.mk ho9; have HG9 := qza.mk hg9; clear ho9 hg9)
            go_roundg (l.length - (jj + 1))
            case measure => omega
            case rel => exact ⟨jj + 1, out ++ [⟨xb, xc, xe⟩], by omega, by omega, by go_num, by simp; omega, ⟨by rw [HT2.out, HPU.out]⟩, ⟨BW8.out.grown HG9.out BW8.out.size (fun k e => HO8.out.base k e)⟩, ⟨by rw [List.map_append]; exact HO9.out⟩⟩
      · have hgz : (xa != g) = true := bne_iff_ne.2 hgrp
        have ht : putsV (l.take (jj + 1)) g = out := by rw [HT.out, beq_eq_false_iff_ne.2 hgrp]; rfl
        have HT2 := qza.mk ht
        clear ht HT
        go_wp2
        go_roundg (l.length - (jj + 1))
        case measure => omega
        case rel => exact ⟨jj + 1, out, by omega, by omega, by go_num, by omega, ⟨HT2.out.symm⟩, BW5, HO5⟩
    · have hltz : ¬ (jj : Int) < (l.length : Int) := by omega
      have hjl : jj = l.length := by omega
      subst hjl
      have hE := HE.out
      rw [List.take_length] at hE
      have HE2 := qza.mk hE
      clear hE HE
      go_wp2
      go_ret
      refine ⟨u5, rfl, ?_, BW.out⟩
      rw [← HE2.out]
      exact flat74.R HO.out (fun _ _ => trivial)
end Go.Proofs.Ytkennobdoldlkaa.PAll
end
