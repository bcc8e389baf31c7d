/-
  The contract of the reference's 'with': a row of numbers with one more.
-/
import Derived.Test.YtnfkplohpjfocaaGreatBlA
import Derived.Test.YtnfkplohpjfocaaGreatGrant
import Derived.Test.YtnfkplohpjfocaaGreatRowIn
set_option linter.unusedVariables false
set_option linter.unusedSimpArgs false
namespace Go.Proofs.YtnfkplohpjfocaaGreat
open Go.RowKit
def withL (n : Int) : Bool → List Int → List Int
  | done, [] => if done then [] else [n]
  | done, x :: l => (if !done && decide (n ≤ x) then [n] else []) ++ ((if x = n then [] else [x]) ++ withL n (done || decide (n ≤ x)) l)
theorem withL_step {n x : Int} {l : List Int} {d : Bool} {i : Nat} (hx : l[i]? = some x) : withL n d (l.drop i) = (if !d && decide (n ≤ x) then [n] else []) ++ ((if x = n then [] else [x]) ++ withL n (d || decide (n ≤ x)) (l.drop (i + 1))) := by
  obtain ⟨hi, rfl⟩ := List.getElem?_eq_some_iff.1 hx
  rw [← List.getElem_cons_drop (h := hi)]
  conv => lhs; unfold withL
theorem withL_len (n : Int) : ∀ (l : List Int) (d : Bool), (withL n d l).length ≤ 2 * l.length + 1
  | [], d => by unfold withL; split <;> simp
  | x :: l, d => by
    have := withL_len n l (d || decide (n ≤ x))
    unfold withL
    simp only [List.length_append, List.length_cons]
    split <;> split <;> simp <;> omega
set_option maxHeartbeats 4000000 in
set_option maxRecDepth 100000 in
theorem rf_with (w0 : World) (v : Value) (l : List Int) (n : Int) (h : IsAt w0 v l) (hl : l.length ≤ 100000) : Calls Tryz.prog 29 #[v, .int .i64 n] w0 (fun e w' => ∃ v', e = .returned v' ∧ IntsNew (withL n false l) w0 v' w') := by
  obtain ⟨ao, cap, rfl, hc1, hc2, hat⟩ := h.get
  obtain ⟨ie, hie, hiz, his, hib⟩ := info_int
  have HIE := Lib.hid hie
  have HIZ := Lib.hid hiz
  have HIS := Lib.hid his
  have HIB := Lib.hid hib
  clear hie hiz his hib
  have hlen := withL_len n l false
  obtain ⟨m, hm⟩ : ∃ m, m = l.length := ⟨_, rfl⟩
  rw [← hm] at hc1 hat hl hlen ⊢
  have HM := Lib.hid hm
  have HAT := Lib.hid hat
  have HLN := Lib.hid hlen
  clear hm hat h hlen
  have HS : Hid (St none default w0 w0 []) := St.start w0
  go_enter Tryz.func29, Tryz.ntmps29
  go_wp2_with fail
  go_loopw [5, 6, 7] (fun s5 s6 s7 wr => ∃ (d : Bool) (i : Nat) (acc : List Int) (lr : List (Nat × TypeId × List Value)), i ≤ m ∧ s6 = .bool d ∧ s7 = .int .i64 i ∧ Hid (withL n false l = acc ++ withL n d (l.drop i)) ∧ Hid (OwnRow 3 1 lr s5 acc.length (acc.map iV)) ∧ Hid (St none default w0 wr lr)) (fun _ _ s7 _ => m - (intOf s7).toNat)
  case atStart => exact ⟨false, 0, [], [], Nat.zero_le _, rfl, rfl, rfl, OwnRow.nil, HS⟩
  case round =>
    clear HS
    obtain ⟨d, i, acc, lr, hi, rfl, rfl, HA, HR, HS⟩ := hrel
    obtain ⟨ao2, cp2, rfl, hd1, hd2⟩ := HR.out.form
    have hd3 : cp2 ≤ 9223372036854775807 := hd2
    obtain ⟨k, hk⟩ : ∃ k, k = acc.length := ⟨_, rfl⟩
    have hkl : k ≤ 200001 := by have h1 := HLN.out; rw [HA.out, List.length_append, ← hk] at h1; omega
    rw [← hk] at HR hd1 ⊢
    have HK := Lib.hid hk
    clear hk hd2
    by_cases hlt : i < m
    · obtain ⟨x, hx⟩ := list_get_of_lt l i m HM.out.symm hlt
      obtain ⟨g, off, rfl, hcell⟩ := HAT.out (by omega)
      have HX := Lib.hid hx
      have HC := Lib.hid (hcell i x hx)
      have HST := Lib.hid (withL_step (n := n) (d := d) hx)
      clear hcell hx
      cases d with
      | true =>
        by_cases hxn : x = n
        · skip
          have HA2 : Hid (withL n false l = (acc) ++ withL n true (l.drop (i + 1))) := Lib.hid (by rw [HA.out, HST.out]; simp [hxn])
          go_wp2_with (first | (refine sx_load1 (by rfl) 3 _ rfl g (off + i) rfl _ sh3 (.int .i64 x) (HC.out _ HS.out.isExt) ?_))
          go_roundw
          case rel => exact ⟨true, i + 1, acc, lr, by omega, rfl, by go_num, HA2, by rw [← HK.out]; exact HR, HS⟩
          case measure => simp [intOf]; omega
        · skip
          have HA2 : Hid (withL n false l = (acc ++ [x]) ++ withL n true (l.drop (i + 1))) := Lib.hid (by rw [HA.out, HST.out]; simp [hxn])
          go_wp2_with (first | (refine sx_load1 (by rfl) 3 _ rfl g (off + i) rfl _ sh3 (.int .i64 x) (HC.out _ HS.out.isExt) ?_) | (refine sx_build HS (by rfl) 38 3 1 [(0, .tmp 38)] rfl [(0, .int .i64 x)] rfl [.int .i64 x] (fun w => build_int x w) ?_; clear HS; intro w bp HS) | (at_builtin; refine sx_appendO (front := [(bp, 3, [.int .i64 x])]) (lr := lr) (ll := []) (St_nilR HS) (by rfl) (.tmp 34) (.tmp 39) 38 rfl 3 ie _ 1 _ Tryz.underlying38 HIE.out HIZ.out HIS.out rfl rfl _ k (acc.map iV) rfl HR.out _ rfl 1 [.int .i64 x] (SrcAt.box (HS.out.box (i := 0) rfl) rfl rfl) (by unfold maxLen; omega) (Nat.le_trans (Nat.mul_le_mul (show k + 1 ≤ 300001 by omega) HIB.out) (by decide)) ?_; clear HS; intro vvbp w lqbp HS HRbp; replace HS := St_nilL HS))
          replace HS : Hid (St none default w0 _ lqbp) := Lib.hid (HS.out.drop 1)
          have HR9 : Hid (OwnRow 3 1 lqbp vvbp (acc ++ [x]).length ((acc ++ [x]).map iV)) := Lib.hid (by have h := HRbp.out; rw [HK.out] at h; simpa [Nat.add_assoc, iV] using h)
          go_roundw
          case rel => exact ⟨true, i + 1, acc ++ [x], lqbp, by omega, rfl, by go_num, HA2, HR9, HS⟩
          case measure => simp [intOf]; omega
      | false =>
        by_cases hle : n ≤ x
        · skip
          by_cases hxn : x = n
          · skip
            have HA2 : Hid (withL n false l = (acc ++ [n]) ++ withL n true (l.drop (i + 1))) := Lib.hid (by rw [HA.out, HST.out]; simp [hxn, hle])
            go_wp2_with (first | (refine sx_build HS (by rfl) 38 3 1 [(0, .tmp 25)] rfl [(0, .int .i64 n)] rfl [.int .i64 n] (fun w => build_int n w) ?_; clear HS; intro w bq HS) | (at_builtin; refine sx_appendO (front := [(bq, 3, [.int .i64 n])]) (lr := lr) (ll := []) (St_nilR HS) (by rfl) (.tmp 24) (.tmp 26) 38 rfl 3 ie _ 1 _ Tryz.underlying38 HIE.out HIZ.out HIS.out rfl rfl _ k (acc.map iV) rfl HR.out _ rfl 1 [.int .i64 n] (SrcAt.box (HS.out.box (i := 0) rfl) rfl rfl) (by unfold maxLen; omega) (Nat.le_trans (Nat.mul_le_mul (show k + 1 ≤ 300001 by omega) HIB.out) (by decide)) ?_; clear HS; intro vvbq w lqbq HS HRbq; replace HS := St_nilL HS; replace HS : Hid (St none default w0 _ lqbq) := Lib.hid (HS.out.drop 1)) | (refine sx_load1 (by rfl) 3 _ rfl g (off + i) rfl _ sh3 (.int .i64 x) (HC.out _ HS.out.isExt) ?_))
            have HR9 : Hid (OwnRow 3 1 lqbq vvbq (acc ++ [n]).length ((acc ++ [n]).map iV)) := Lib.hid (by have h := HRbq.out; rw [HK.out] at h; simpa [Nat.add_assoc, iV] using h)
            go_roundw
            case rel => exact ⟨true, i + 1, acc ++ [n], lqbq, by omega, rfl, by go_num, HA2, HR9, HS⟩
            case measure => simp [intOf]; omega
          · skip
            have HA2 : Hid (withL n false l = (acc ++ [n] ++ [x]) ++ withL n true (l.drop (i + 1))) := Lib.hid (by rw [HA.out, HST.out]; simp [hxn, hle])
            go_wp2_with (first | (refine sx_build HS (by rfl) 38 3 1 [(0, .tmp 25)] rfl [(0, .int .i64 n)] rfl [.int .i64 n] (fun w => build_int n w) ?_; clear HS; intro w bq HS) | (at_builtin; refine sx_appendO (front := [(bq, 3, [.int .i64 n])]) (lr := lr) (ll := []) (St_nilR HS) (by rfl) (.tmp 24) (.tmp 26) 38 rfl 3 ie _ 1 _ Tryz.underlying38 HIE.out HIZ.out HIS.out rfl rfl _ k (acc.map iV) rfl HR.out _ rfl 1 [.int .i64 n] (SrcAt.box (HS.out.box (i := 0) rfl) rfl rfl) (by unfold maxLen; omega) (Nat.le_trans (Nat.mul_le_mul (show k + 1 ≤ 300001 by omega) HIB.out) (by decide)) ?_; clear HS; intro vvbq w lqbq HS HRbq; replace HS := St_nilL HS; replace HS : Hid (St none default w0 _ lqbq) := Lib.hid (HS.out.drop 1)) | (refine sx_load1 (by rfl) 3 _ rfl g (off + i) rfl _ sh3 (.int .i64 x) (HC.out _ HS.out.isExt) ?_) | (refine sx_build HS (by rfl) 38 3 1 [(0, .tmp 38)] rfl [(0, .int .i64 x)] rfl [.int .i64 x] (fun w => build_int x w) ?_; clear HS; intro w bp HS) | (at_builtin; refine sx_appendO (front := [(bp, 3, [.int .i64 x])]) (lr := lqbq) (ll := []) (St_nilR HS) (by rfl) (.tmp 34) (.tmp 39) 38 rfl 3 ie _ 1 _ Tryz.underlying38 HIE.out HIZ.out HIS.out rfl rfl _ (k + 1) (acc.map iV ++ [Value.int .i64 n]) rfl HRbq.out _ rfl 1 [.int .i64 x] (SrcAt.box (HS.out.box (i := 0) rfl) rfl rfl) (by unfold maxLen; omega) (Nat.le_trans (Nat.mul_le_mul (show (k + 1) + 1 ≤ 300001 by omega) HIB.out) (by decide)) ?_; clear HS; intro vvbp w lqbp HS HRbp; replace HS := St_nilL HS))
            replace HS : Hid (St none default w0 _ lqbp) := Lib.hid (HS.out.drop 1)
            have HR9 : Hid (OwnRow 3 1 lqbp vvbp (acc ++ [n] ++ [x]).length ((acc ++ [n] ++ [x]).map iV)) := Lib.hid (by have h := HRbp.out; rw [HK.out] at h; simpa [Nat.add_assoc, iV] using h)
            go_roundw
            case rel => exact ⟨true, i + 1, acc ++ [n] ++ [x], lqbp, by omega, rfl, by go_num, HA2, HR9, HS⟩
            case measure => simp [intOf]; omega
        · skip
          have hxn : ¬ x = n := by omega
          have HA2 : Hid (withL n false l = (acc ++ [x]) ++ withL n false (l.drop (i + 1))) := Lib.hid (by rw [HA.out, HST.out]; simp [hxn, hle])
          go_wp2_with (first | (refine sx_load1 (by rfl) 3 _ rfl g (off + i) rfl _ sh3 (.int .i64 x) (HC.out _ HS.out.isExt) ?_) | (refine sx_build HS (by rfl) 38 3 1 [(0, .tmp 38)] rfl [(0, .int .i64 x)] rfl [.int .i64 x] (fun w => build_int x w) ?_; clear HS; intro w bp HS) | (at_builtin; refine sx_appendO (front := [(bp, 3, [.int .i64 x])]) (lr := lr) (ll := []) (St_nilR HS) (by rfl) (.tmp 34) (.tmp 39) 38 rfl 3 ie _ 1 _ Tryz.underlying38 HIE.out HIZ.out HIS.out rfl rfl _ k (acc.map iV) rfl HR.out _ rfl 1 [.int .i64 x] (SrcAt.box (HS.out.box (i := 0) rfl) rfl rfl) (by unfold maxLen; omega) (Nat.le_trans (Nat.mul_le_mul (show k + 1 ≤ 300001 by omega) HIB.out) (by decide)) ?_; clear HS; intro vvbp w lqbp HS HRbp; replace HS := St_nilL HS))
          replace HS : Hid (St none default w0 _ lqbp) := Lib.hid (HS.out.drop 1)
          have HR9 : Hid (OwnRow 3 1 lqbp vvbp (acc ++ [x]).length ((acc ++ [x]).map iV)) := Lib.hid (by have h := HRbp.out; rw [HK.out] at h; simpa [Nat.add_assoc, iV] using h)
          go_roundw
          case rel => exact ⟨false, i + 1, acc ++ [x], lqbp, by omega, rfl, by go_num, HA2, HR9, HS⟩
          case measure => simp [intOf]; omega
    · have him : i = m := by omega
      subst him
      cases d with
      | true =>
        have HF : Hid (withL n false l = acc) := Lib.hid (by rw [HA.out, List.drop_eq_nil_of_le (by rw [← HM.out]; exact Nat.le_refl _)]; simp [withL])
        go_wp2_with fail
        go_ret
        exact ⟨_, rfl, lr, HS.out, by rw [HF.out, ← HK.out]; exact HR.out⟩
      | false =>
        have HF : Hid (withL n false l = acc ++ [n]) := Lib.hid (by rw [HA.out, List.drop_eq_nil_of_le (by rw [← HM.out]; exact Nat.le_refl _)]; simp [withL])
        go_wp2_with (first | (refine sx_build HS (by rfl) 38 3 1 [(0, .tmp 44)] rfl [(0, .int .i64 n)] rfl [.int .i64 n] (fun w => build_int n w) ?_; clear HS; intro w bq HS) | (at_builtin; refine sx_appendO (front := [(bq, 3, [.int .i64 n])]) (lr := lr) (ll := []) (St_nilR HS) (by rfl) (.tmp 43) (.tmp 45) 38 rfl 3 ie _ 1 _ Tryz.underlying38 HIE.out HIZ.out HIS.out rfl rfl _ k (acc.map iV) rfl HR.out _ rfl 1 [.int .i64 n] (SrcAt.box (HS.out.box (i := 0) rfl) rfl rfl) (by unfold maxLen; omega) (Nat.le_trans (Nat.mul_le_mul (show k + 1 ≤ 300001 by omega) HIB.out) (by decide)) ?_; clear HS; intro vvbq w lqbq HS HRbq; replace HS := St_nilL HS))
        go_ret
        refine ⟨_, rfl, lqbq, ?_, ?_⟩
        · exact HS.out.drop 1
        · rw [HF.out, List.length_append, ← HK.out, List.map_append]
          exact HRbq.out
theorem withL_done {n : Int} : ∀ {l : List Int}, (∀ x ∈ l, n < x) → withL n true l = l
  | [], _ => rfl
  | x :: l, h => by
    have hx := h x (by simp)
    have := withL_done (n := n) (l := l) (fun y hy => h y (by simp [hy]))
    unfold withL
    rw [if_neg (show ¬ x = n by omega)]
    simp [this]
theorem withL_same {n : Int} : ∀ {l : List Int}, l.Pairwise (· < ·) → withL n false l = withF n l
  | [], _ => rfl
  | x :: l, h => by
    obtain ⟨h1, h2⟩ := List.pairwise_cons.1 h
    unfold withL withF
    by_cases hle : n ≤ x
    · rw [if_pos hle]
      have hd : withL n true l = l := withL_done fun y hy => by have := h1 y hy; omega
      by_cases e : x = n
      · rw [if_pos e, if_pos e]
        simp [hle, hd]
      · rw [if_neg e, if_neg e]
        simp [hle, hd]
    · have := withL_same (n := n) h2
      rw [if_neg hle, if_neg (show ¬ x = n by omega)]
      simp [hle, this]
theorem rf_withF (w0 : World) (v : Value) (l : List Int) (n : Int) (h : IsAt w0 v l) (hl : l.length ≤ 100000) (hs : l.Pairwise (· < ·)) : Calls Tryz.prog 29 #[v, .int .i64 n] w0 (fun e w' => ∃ v', e = .returned v' ∧ IntsNew (withF n l) w0 v' w') := by
  rw [← withL_same hs]
  exact rf_with w0 v l n h hl
theorem IntsNew.on {cc : Option Nat} {q : CodeRow} {w0 w w' : World} {lr ll : List (Nat × TypeId × List Value)} {ns : List Int} {v : Value} (HS : Hid (St cc q w0 w (lr ++ ll))) (h : IntsNew ns w v w') : ∃ lr', Hid (St cc q w0 w' (lr' ++ ll)) ∧ Hid (OwnRow 3 1 lr' v ns.length (ns.map iV)) := by
  obtain ⟨lr', k, hr⟩ := h
  exact ⟨lr', Lib.hid ((HS.out.call k).sub (List.Sublist.append_left (List.sublist_append_right lr ll) lr')), Lib.hid hr⟩
end Go.Proofs.YtnfkplohpjfocaaGreat
