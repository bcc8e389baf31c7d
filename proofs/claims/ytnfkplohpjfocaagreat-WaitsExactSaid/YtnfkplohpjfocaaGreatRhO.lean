/-
  The contract of the drawn tables of locks.
-/
import Derived.Test.YtnfkplohpjfocaaGreatRhF
import Derived.Test.YtnfkplohpjfocaaGreatRhG
import Derived.Test.YtnfkplohpjfocaaGreatRhV
import Derived.Test.YtnfkplohpjfocaaGreatLawC
set_option linter.unusedVariables false
set_option linter.unusedSimpArgs false
namespace Go.Proofs.YtnfkplohpjfocaaGreat
open Go.RowKit
theorem Kp.own {v0 v : Value} {gs0 gs : List G} {l L : List (Nat × TypeId × List Value)} (h : Kp v0 gs0 l v gs) (h0 : OwnIn L v0 gs0) : OwnIn (l ++ L) v gs := by
  rcases h with ⟨rfl, rfl⟩ | h
  · exact h0.mono (fun e he => List.mem_append_right _ he)
  · exact h.mono (fun e he => List.mem_append_left _ he)
theorem without_len (p q : G → Bool) (hs ws : List G) : (withoutF p q hs ws).1.length + (withoutF p q hs ws).2.length ≤ hs.length + ws.length := by
  unfold withoutF
  split
  · have h1 := settle_len (hs.filter fun g => !p g) (ws.filter fun g => !q g)
    have h2 := List.length_filter_le (fun g => !p g) hs
    have h3 := List.length_filter_le (fun g => !q g) ws
    omega
  · exact Nat.le_refl _
section
variable {w0 w : World} {a b c d : Nat × TypeId × List Value} {l t : List (Nat × TypeId × List Value)}
theorem St3A (h : Hid (St none default w0 w (l ++ (a :: b :: c :: t)))) : Hid (St none default w0 w (a :: b :: c :: (l ++ t))) := Lib.hid (h.out.perm (by simpa using List.perm_append_comm_assoc [a, b, c] l t))
theorem St4E (h : Hid (St none default w0 w (l ++ (a :: b :: c :: d :: t)))) : Hid (St none default w0 w (a :: b :: c :: d :: (l ++ t))) := Lib.hid (h.out.perm (by simpa using List.perm_append_comm_assoc [a, b, c, d] l t))
end
/-- What a drawn table is. -/
def LksPost (w0 : World) (ll : List (Nat × TypeId × List Value)) (a : Option Addr) (len cap c : Nat) (e : Ending) (w' : World) : Prop :=
  ∃ (vh vw : Value) (hs ws : List G) (lr : List (Nat × TypeId × List Value)) (pos : Nat), e = .returned (.agg #[vh, vw]) ∧ pos ≤ len ∧ hs.length + ws.length ≤ 14 ∧ OwnIn lr vh hs ∧ OwnIn lr vw ws ∧ St none default w0 w' ((c, 47, codL a len cap pos) :: (lr ++ ll))
set_option maxHeartbeats 8000000 in
set_option maxRecDepth 100000 in
theorem draw_locks (w0 w : World) (ll : List (Nat × TypeId × List Value)) (a : Option Addr) (len cap pos c : Nat) (hst : St none default w0 w ((c, 47, codL a len cap pos) :: ll)) (hby : BytesIn w0 a len) (hp : pos ≤ len) (hl : len ≤ 65536) : Calls Tryz.prog 6 #[.pointer (some ⟨c, 0, none⟩)] w (LksPost w0 ll a len cap c) := by
  have HS := Lib.hid hst
  have HBY := Lib.hid hby
  clear hst hby
  go_enter Tryz.func6, Tryz.ntmps6
  go_wp2_with (first | (refine sx_alloc (l := (b2, 25, [.slice none 0 0, .slice none 0 0]) :: (c, 47, codL a len cap pos) :: ll) HS rfl 25 rfl _ zr25 ?_; clear HS; intro w b3 HS) | (refine sx_alloc HS rfl 25 rfl _ zr25 ?_; clear HS; intro w b2 HS))
  replace HS : Hid (St none default w0 w ((b3, 25, [.slice none 0 0, .slice none 0 0]) :: (b2, 25, [.slice none 0 0, .slice none 0 0]) :: (c, 47, codL a len cap pos) :: ll)) := HS
  refine (next_own (front := [(b3, 25, [.slice none 0 0, .slice none 0 0]), (b2, 25, [.slice none 0 0, .slice none 0 0])]) (ll := ll) 14 HS.out HBY.out hp hl (by decide) (by decide)).mono ?_
  rintro e w ⟨k, p2, rfl, hk, -, hp2, -, hst⟩
  clear HS hp
  have HS := Lib.hid hst
  have hp := hp2
  clear hst hp2
  go_wp2_with fail
  go_loopw [4] (fun s4 wr => ∃ (k p : Nat) (hs ws : List G) (v1 v2 : Value) (lr : List (Nat × TypeId × List Value)), s4 = .int .i64 k ∧ p ≤ len ∧ hs.length + ws.length + k ≤ 14 ∧ Hid (OwnIn lr v1 hs) ∧ Hid (OwnIn lr v2 ws) ∧ Hid (St none default w0 wr ((b3, 25, [v1, v2]) :: (b2, 25, [.slice none 0 0, .slice none 0 0]) :: (c, 47, codL a len cap p) :: (lr ++ ll)))) (fun s4 _ => (intOf s4).toNat)
  case atStart => exact ⟨k, p2, [], [], _, _, [], rfl, hp, by simp; omega, Lib.hid OwnIn.nil, Lib.hid OwnIn.nil, HS⟩
  case round =>
    clear HS hp hk
    obtain ⟨k, p, hs, ws, v1, v2, lr, rfl, hp, hbd, HO1, HO2, HS⟩ := hrel
    by_cases hk0 : k = 0
    · skip
      subst hk0
      have HO : Hid (v1.oneCell' = true ∧ v2.oneCell' = true) := Lib.hid ⟨HO1.out.one, HO2.out.one⟩
      go_wp2_with (first | (refine sx_loads HS (by rfl) 25 _ rfl 0 _ _ _ rfl 0 rfl 2 sh25 [v1, v2] rfl ⟨rfl, rfl, trivial⟩ ?_) | (refine sx_store_all HS (by rfl) 25 _ _ rfl rfl 1 _ _ _ rfl rfl [v1, v2] rfl 2 sh25 rfl rfl (by simp [HO.out.1, HO.out.2]) ?_; clear HS; intro w HS))
      have hB : PBox w b2 25 [v1, v2] := HS.out.box (i := 1) rfl
      refine bodyPost_ret (results_c rfl rfl (run_load_cells sh25 rfl (fun j u hj => by rw [Nat.zero_add]; exact hB.cell hj))) rfl ?_
      exact ⟨v1, v2, hs, ws, lr, p, rfl, hp, by omega, HO1.out, HO2.out, HS.out.drop 2⟩
    · skip
      have hkp : 0 < k := by omega
      go_wp2_with fail
      refine (next_own (front := [(b3, 25, [v1, v2]), (b2, 25, [.slice none 0 0, .slice none 0 0])]) (ll := lr ++ ll) 6 HS.out HBY.out hp hl (by decide) (by decide)).mono ?_
      rintro e w ⟨z, p2, rfl, hz, -, hp2, -, hst⟩
      clear HS hp
      have HS := Lib.hid hst
      have hp := hp2
      clear hst hp2
      by_cases hz4 : z = 4
      · skip
        subst hz4
        go_wp2_with fail
        refine hg_begin [] HS (by kernel_rfl) ?_
        clear HS; intro w HS
        refine hg_reg 1 (some 30) rfl rfl (by kernel_rfl) (by kernel_rfl) (by kernel_rfl) (fun _ _ _ _ h => h) HS (List.nil_sublist _) (.pointer (some ⟨c, 0, none⟩)) rfl (fun _ => by rfl) ?_
        try simp only [Act.put, List.setIfInBounds_toArray, List.set_cons_zero, List.set_cons_succ]
        refine hk_x2 0 2 (by kernel_rfl) ?_ ?_
        · skip
          refine hx_loads 0 (some 29) rfl rfl rfl HS (List.nil_sublist _) 25 _ rfl 0 _ _ _ rfl 0 rfl 2 sh25 [v1, v2] rfl ⟨rfl, rfl, trivial⟩ ?_
          try simp only [Act.put, List.setIfInBounds_toArray, List.set_cons_zero, List.set_cons_succ]
          refine hk_x1 2 (by kernel_rfl) ?_
          refine hg_callT 2 (some 31) rfl rfl rfl 17 _ _ rfl Tryz.func17 (by kernel_rfl) rfl [.pointer (some ⟨c, 0, none⟩), .int .i64 5] (fun v w2 => ∃ (r p3 : Nat), v = .int .i64 r ∧ r < 5 ∧ p3 ≤ len ∧ St none default w0 w2 ((b3, 25, [v1, v2]) :: (b2, 25, [.slice none 0 0, .slice none 0 0]) :: (c, 47, codL a len cap p3) :: (lr ++ ll))) ((next_own (front := [(b3, 25, [v1, v2]), (b2, 25, [.slice none 0 0, .slice none 0 0])]) (ll := lr ++ ll) 5 HS.out HBY.out hp hl (by decide) (by decide)).mono (fun e w1 h => by obtain ⟨r, p3, rfl, h1, _, h3, _, h5⟩ := h; exact ⟨_, rfl, r, p3, rfl, h1, h3, h5⟩)) (fun v w2 h => by obtain ⟨r, p3, _, _, _, h5⟩ := h; exact h5.sub (List.nil_sublist _)) rfl ?_
          clear HS; rintro _ w ⟨r, p3, rfl, hr5, hp3, hst⟩
          have HS := Lib.hid hst
          replace hp := hp3
          clear hst hp3
          try simp only [Act.put, List.setIfInBounds_toArray, List.set_cons_zero, List.set_cons_succ]
          refine hg_reg 3 (some 32) rfl rfl (by kernel_rfl) (by kernel_rfl) (by kernel_rfl) (fun _ _ _ _ h => h) HS (List.nil_sublist _) (.int .i64 (1 + (r : Int))) rfl (fun _ => by go_simp <;> first | assumption | omega | exact IntWalk.i64_in _ (by omega)) ?_
          try simp only [Act.put, List.setIfInBounds_toArray, List.set_cons_zero, List.set_cons_succ]
          refine hk_x1 4 (by kernel_rfl) ?_
          refine hg_callT 4 (some 33) rfl rfl rfl 18 _ _ rfl Tryz.func18 (by kernel_rfl) rfl [.agg #[v1, v2], .int .i64 (1 + (r : Int))] (fun v w2 => ∃ (u1 u2 : Value) (l2 : List (Nat × TypeId × List Value)), v = .agg #[u1, u2] ∧ St none default w0 w2 (l2 ++ ((b3, 25, [v1, v2]) :: (b2, 25, [.slice none 0 0, .slice none 0 0]) :: (c, 47, codL a len cap p3) :: (lr ++ ll))) ∧ Kp v1 hs l2 u1 (releaseF (1 + (r : Int)) hs ws).1 ∧ Kp v2 ws l2 u2 (releaseF (1 + (r : Int)) hs ws).2) ((rf_release w v1 v2 hs ws (1 + (r : Int)) (HO1.out.at HS.out (fun e he => by simp [he])) (HO2.out.at HS.out (fun e he => by simp [he])) (by omega) (by omega)).mono (fun e w1 h => by obtain ⟨u1, u2, l2, rfl, h1, h2, h3⟩ := h; exact ⟨_, rfl, u1, u2, l2, rfl, HS.out.call h1, h2, h3⟩)) (fun v w2 h => by obtain ⟨u1, u2, l2, _, h1, _⟩ := h; exact h1.sub (List.nil_sublist _)) rfl ?_
          clear HS; rintro _ w ⟨u1, u2, l2, rfl, hst, hk1, hk2⟩
          have HS := St3A (Lib.hid hst)
          have HOA := Lib.hid (hk1.own HO1.out)
          have HOB := Lib.hid (hk2.own HO2.out)
          have HO : Hid (u1.oneCell' = true ∧ u2.oneCell' = true) := Lib.hid ⟨HOA.out.one, HOB.out.one⟩
          clear hst hk1 hk2
          try simp only [Act.put, List.setIfInBounds_toArray, List.set_cons_zero, List.set_cons_succ]
          refine hk_x1 5 (by kernel_rfl) ?_
          refine hg_store_all 5 rfl rfl HS 25 _ _ rfl rfl 0 b3 25 [v1, v2] rfl rfl [u1, u2] rfl 2 sh25 rfl rfl (by simp [HO.out.1, HO.out.2]) (List.nil_sublist _) ?_
          clear HS; intro w HS
          try simp only [Act.put, List.setIfInBounds_toArray, List.set_cons_zero, List.set_cons_succ]
          refine hk_done (by kernel_rfl) ?_
          replace HS : Hid (St none default w0 w ((b3, 25, [u1, u2]) :: (b2, 25, [.slice none 0 0, .slice none 0 0]) :: (c, 47, codL a len cap p3) :: ((l2 ++ lr) ++ ll))) := Lib.hid (by have h := HS.out; rw [List.append_assoc]; exact h)
          have hwl := without_len (fun g => g.tx == 1 + (r : Int)) (fun g => g.tx == 1 + (r : Int)) hs ws
          have hwl2 : (releaseF (1 + (r : Int)) hs ws).1.length + (releaseF (1 + (r : Int)) hs ws).2.length ≤ hs.length + ws.length := hwl
          clear hwl
          go_wp2_with fail
          go_roundw
          case rel => exact ⟨k - 1, p3, (releaseF (1 + (r : Int)) hs ws).1, (releaseF (1 + (r : Int)) hs ws).2, u1, u2, l2 ++ lr, by go_num <;> omega, hp, by omega, HOA, HOB, HS⟩
          case measure => simp [intOf]; omega
        · skip
          refine hg_callT 2 (some 31) rfl rfl rfl 17 _ _ rfl Tryz.func17 (by kernel_rfl) rfl [.pointer (some ⟨c, 0, none⟩), .int .i64 5] (fun v w2 => ∃ (r p3 : Nat), v = .int .i64 r ∧ r < 5 ∧ p3 ≤ len ∧ St none default w0 w2 ((b3, 25, [v1, v2]) :: (b2, 25, [.slice none 0 0, .slice none 0 0]) :: (c, 47, codL a len cap p3) :: (lr ++ ll))) ((next_own (front := [(b3, 25, [v1, v2]), (b2, 25, [.slice none 0 0, .slice none 0 0])]) (ll := lr ++ ll) 5 HS.out HBY.out hp hl (by decide) (by decide)).mono (fun e w1 h => by obtain ⟨r, p3, rfl, h1, _, h3, _, h5⟩ := h; exact ⟨_, rfl, r, p3, rfl, h1, h3, h5⟩)) (fun v w2 h => by obtain ⟨r, p3, _, _, _, h5⟩ := h; exact h5.sub (List.nil_sublist _)) rfl ?_
          clear HS; rintro _ w ⟨r, p3, rfl, hr5, hp3, hst⟩
          have HS := Lib.hid hst
          replace hp := hp3
          clear hst hp3
          try simp only [Act.put, List.setIfInBounds_toArray, List.set_cons_zero, List.set_cons_succ]
          refine hg_reg 3 (some 32) rfl rfl (by kernel_rfl) (by kernel_rfl) (by kernel_rfl) (fun _ _ _ _ h => h) HS (List.nil_sublist _) (.int .i64 (1 + (r : Int))) rfl (fun _ => by go_simp <;> first | assumption | omega | exact IntWalk.i64_in _ (by omega)) ?_
          try simp only [Act.put, List.setIfInBounds_toArray, List.set_cons_zero, List.set_cons_succ]
          refine hk_x1 0 (by kernel_rfl) ?_
          refine hx_loads 0 (some 29) rfl rfl rfl HS (List.nil_sublist _) 25 _ rfl 0 _ _ _ rfl 0 rfl 2 sh25 [v1, v2] rfl ⟨rfl, rfl, trivial⟩ ?_
          try simp only [Act.put, List.setIfInBounds_toArray, List.set_cons_zero, List.set_cons_succ]
          refine hk_x1 4 (by kernel_rfl) ?_
          refine hg_callT 4 (some 33) rfl rfl rfl 18 _ _ rfl Tryz.func18 (by kernel_rfl) rfl [.agg #[v1, v2], .int .i64 (1 + (r : Int))] (fun v w2 => ∃ (u1 u2 : Value) (l2 : List (Nat × TypeId × List Value)), v = .agg #[u1, u2] ∧ St none default w0 w2 (l2 ++ ((b3, 25, [v1, v2]) :: (b2, 25, [.slice none 0 0, .slice none 0 0]) :: (c, 47, codL a len cap p3) :: (lr ++ ll))) ∧ Kp v1 hs l2 u1 (releaseF (1 + (r : Int)) hs ws).1 ∧ Kp v2 ws l2 u2 (releaseF (1 + (r : Int)) hs ws).2) ((rf_release w v1 v2 hs ws (1 + (r : Int)) (HO1.out.at HS.out (fun e he => by simp [he])) (HO2.out.at HS.out (fun e he => by simp [he])) (by omega) (by omega)).mono (fun e w1 h => by obtain ⟨u1, u2, l2, rfl, h1, h2, h3⟩ := h; exact ⟨_, rfl, u1, u2, l2, rfl, HS.out.call h1, h2, h3⟩)) (fun v w2 h => by obtain ⟨u1, u2, l2, _, h1, _⟩ := h; exact h1.sub (List.nil_sublist _)) rfl ?_
          clear HS; rintro _ w ⟨u1, u2, l2, rfl, hst, hk1, hk2⟩
          have HS := St3A (Lib.hid hst)
          have HOA := Lib.hid (hk1.own HO1.out)
          have HOB := Lib.hid (hk2.own HO2.out)
          have HO : Hid (u1.oneCell' = true ∧ u2.oneCell' = true) := Lib.hid ⟨HOA.out.one, HOB.out.one⟩
          clear hst hk1 hk2
          try simp only [Act.put, List.setIfInBounds_toArray, List.set_cons_zero, List.set_cons_succ]
          refine hk_x1 5 (by kernel_rfl) ?_
          refine hg_store_all 5 rfl rfl HS 25 _ _ rfl rfl 0 b3 25 [v1, v2] rfl rfl [u1, u2] rfl 2 sh25 rfl rfl (by simp [HO.out.1, HO.out.2]) (List.nil_sublist _) ?_
          clear HS; intro w HS
          try simp only [Act.put, List.setIfInBounds_toArray, List.set_cons_zero, List.set_cons_succ]
          refine hk_done (by kernel_rfl) ?_
          replace HS : Hid (St none default w0 w ((b3, 25, [u1, u2]) :: (b2, 25, [.slice none 0 0, .slice none 0 0]) :: (c, 47, codL a len cap p3) :: ((l2 ++ lr) ++ ll))) := Lib.hid (by have h := HS.out; rw [List.append_assoc]; exact h)
          have hwl := without_len (fun g => g.tx == 1 + (r : Int)) (fun g => g.tx == 1 + (r : Int)) hs ws
          have hwl2 : (releaseF (1 + (r : Int)) hs ws).1.length + (releaseF (1 + (r : Int)) hs ws).2.length ≤ hs.length + ws.length := hwl
          clear hwl
          go_wp2_with fail
          go_roundw
          case rel => exact ⟨k - 1, p3, (releaseF (1 + (r : Int)) hs ws).1, (releaseF (1 + (r : Int)) hs ws).2, u1, u2, l2 ++ lr, by go_num <;> omega, hp, by omega, HOA, HOB, HS⟩
          case measure => simp [intOf]; omega
      · skip
        by_cases hz5 : z = 5
        · skip
          subst hz5
          go_wp2_with fail
          refine hg_begin [] HS (by kernel_rfl) ?_
          clear HS; intro w HS
          refine hg_reg 1 (some 37) rfl rfl (by kernel_rfl) (by kernel_rfl) (by kernel_rfl) (fun _ _ _ _ h => h) HS (List.nil_sublist _) (.pointer (some ⟨c, 0, none⟩)) rfl (fun _ => by rfl) ?_
          try simp only [Act.put, List.setIfInBounds_toArray, List.set_cons_zero, List.set_cons_succ]
          refine hk_x2 0 2 (by kernel_rfl) ?_ ?_
          · skip
            refine hx_loads 0 (some 36) rfl rfl rfl HS (List.nil_sublist _) 25 _ rfl 0 _ _ _ rfl 0 rfl 2 sh25 [v1, v2] rfl ⟨rfl, rfl, trivial⟩ ?_
            try simp only [Act.put, List.setIfInBounds_toArray, List.set_cons_zero, List.set_cons_succ]
            refine hk_x1 2 (by kernel_rfl) ?_
            refine hg_callT 2 (some 38) rfl rfl rfl 17 _ _ rfl Tryz.func17 (by kernel_rfl) rfl [.pointer (some ⟨c, 0, none⟩), .int .i64 5] (fun v w2 => ∃ (r p3 : Nat), v = .int .i64 r ∧ r < 5 ∧ p3 ≤ len ∧ St none default w0 w2 ((b3, 25, [v1, v2]) :: (b2, 25, [.slice none 0 0, .slice none 0 0]) :: (c, 47, codL a len cap p3) :: (lr ++ ll))) ((next_own (front := [(b3, 25, [v1, v2]), (b2, 25, [.slice none 0 0, .slice none 0 0])]) (ll := lr ++ ll) 5 HS.out HBY.out hp hl (by decide) (by decide)).mono (fun e w1 h => by obtain ⟨r, p3, rfl, h1, _, h3, _, h5⟩ := h; exact ⟨_, rfl, r, p3, rfl, h1, h3, h5⟩)) (fun v w2 h => by obtain ⟨r, p3, _, _, _, h5⟩ := h; exact h5.sub (List.nil_sublist _)) rfl ?_
            clear HS; rintro _ w ⟨r, p3, rfl, hr5, hp3, hst⟩
            have HS := Lib.hid hst
            replace hp := hp3
            clear hst hp3
            try simp only [Act.put, List.setIfInBounds_toArray, List.set_cons_zero, List.set_cons_succ]
            refine hg_reg 3 (some 39) rfl rfl (by kernel_rfl) (by kernel_rfl) (by kernel_rfl) (fun _ _ _ _ h => h) HS (List.nil_sublist _) (.int .i64 (1 + (r : Int))) rfl (fun _ => by go_simp <;> first | assumption | omega | exact IntWalk.i64_in _ (by omega)) ?_
            try simp only [Act.put, List.setIfInBounds_toArray, List.set_cons_zero, List.set_cons_succ]
            refine hk_x1 4 (by kernel_rfl) ?_
            refine hg_callT 4 (some 40) rfl rfl rfl 19 _ _ rfl Tryz.func19 (by kernel_rfl) rfl [.agg #[v1, v2], .int .i64 (1 + (r : Int))] (fun v w2 => ∃ (u1 u2 : Value) (l2 : List (Nat × TypeId × List Value)), v = .agg #[u1, u2] ∧ St none default w0 w2 (l2 ++ ((b3, 25, [v1, v2]) :: (b2, 25, [.slice none 0 0, .slice none 0 0]) :: (c, 47, codL a len cap p3) :: (lr ++ ll))) ∧ Kp v1 hs l2 u1 (cancelF (1 + (r : Int)) hs ws).1 ∧ Kp v2 ws l2 u2 (cancelF (1 + (r : Int)) hs ws).2) ((rf_cancel w v1 v2 hs ws (1 + (r : Int)) (HO1.out.at HS.out (fun e he => by simp [he])) (HO2.out.at HS.out (fun e he => by simp [he])) (by omega) (by omega)).mono (fun e w1 h => by obtain ⟨u1, u2, l2, rfl, h1, h2, h3⟩ := h; exact ⟨_, rfl, u1, u2, l2, rfl, HS.out.call h1, h2, h3⟩)) (fun v w2 h => by obtain ⟨u1, u2, l2, _, h1, _⟩ := h; exact h1.sub (List.nil_sublist _)) rfl ?_
            clear HS; rintro _ w ⟨u1, u2, l2, rfl, hst, hk1, hk2⟩
            have HS := St3A (Lib.hid hst)
            have HOA := Lib.hid (hk1.own HO1.out)
            have HOB := Lib.hid (hk2.own HO2.out)
            have HO : Hid (u1.oneCell' = true ∧ u2.oneCell' = true) := Lib.hid ⟨HOA.out.one, HOB.out.one⟩
            clear hst hk1 hk2
            try simp only [Act.put, List.setIfInBounds_toArray, List.set_cons_zero, List.set_cons_succ]
            refine hk_x1 5 (by kernel_rfl) ?_
            refine hg_store_all 5 rfl rfl HS 25 _ _ rfl rfl 0 b3 25 [v1, v2] rfl rfl [u1, u2] rfl 2 sh25 rfl rfl (by simp [HO.out.1, HO.out.2]) (List.nil_sublist _) ?_
            clear HS; intro w HS
            try simp only [Act.put, List.setIfInBounds_toArray, List.set_cons_zero, List.set_cons_succ]
            refine hk_done (by kernel_rfl) ?_
            replace HS : Hid (St none default w0 w ((b3, 25, [u1, u2]) :: (b2, 25, [.slice none 0 0, .slice none 0 0]) :: (c, 47, codL a len cap p3) :: ((l2 ++ lr) ++ ll))) := Lib.hid (by have h := HS.out; rw [List.append_assoc]; exact h)
            have hwl := without_len (fun _ => false) (fun g => g.tx == 1 + (r : Int)) hs ws
            have hwl2 : (cancelF (1 + (r : Int)) hs ws).1.length + (cancelF (1 + (r : Int)) hs ws).2.length ≤ hs.length + ws.length := hwl
            clear hwl
            go_wp2_with fail
            go_roundw
            case rel => exact ⟨k - 1, p3, (cancelF (1 + (r : Int)) hs ws).1, (cancelF (1 + (r : Int)) hs ws).2, u1, u2, l2 ++ lr, by go_num <;> omega, hp, by omega, HOA, HOB, HS⟩
            case measure => simp [intOf]; omega
          · skip
            refine hg_callT 2 (some 38) rfl rfl rfl 17 _ _ rfl Tryz.func17 (by kernel_rfl) rfl [.pointer (some ⟨c, 0, none⟩), .int .i64 5] (fun v w2 => ∃ (r p3 : Nat), v = .int .i64 r ∧ r < 5 ∧ p3 ≤ len ∧ St none default w0 w2 ((b3, 25, [v1, v2]) :: (b2, 25, [.slice none 0 0, .slice none 0 0]) :: (c, 47, codL a len cap p3) :: (lr ++ ll))) ((next_own (front := [(b3, 25, [v1, v2]), (b2, 25, [.slice none 0 0, .slice none 0 0])]) (ll := lr ++ ll) 5 HS.out HBY.out hp hl (by decide) (by decide)).mono (fun e w1 h => by obtain ⟨r, p3, rfl, h1, _, h3, _, h5⟩ := h; exact ⟨_, rfl, r, p3, rfl, h1, h3, h5⟩)) (fun v w2 h => by obtain ⟨r, p3, _, _, _, h5⟩ := h; exact h5.sub (List.nil_sublist _)) rfl ?_
            clear HS; rintro _ w ⟨r, p3, rfl, hr5, hp3, hst⟩
            have HS := Lib.hid hst
            replace hp := hp3
            clear hst hp3
            try simp only [Act.put, List.setIfInBounds_toArray, List.set_cons_zero, List.set_cons_succ]
            refine hg_reg 3 (some 39) rfl rfl (by kernel_rfl) (by kernel_rfl) (by kernel_rfl) (fun _ _ _ _ h => h) HS (List.nil_sublist _) (.int .i64 (1 + (r : Int))) rfl (fun _ => by go_simp <;> first | assumption | omega | exact IntWalk.i64_in _ (by omega)) ?_
            try simp only [Act.put, List.setIfInBounds_toArray, List.set_cons_zero, List.set_cons_succ]
            refine hk_x1 0 (by kernel_rfl) ?_
            refine hx_loads 0 (some 36) rfl rfl rfl HS (List.nil_sublist _) 25 _ rfl 0 _ _ _ rfl 0 rfl 2 sh25 [v1, v2] rfl ⟨rfl, rfl, trivial⟩ ?_
            try simp only [Act.put, List.setIfInBounds_toArray, List.set_cons_zero, List.set_cons_succ]
            refine hk_x1 4 (by kernel_rfl) ?_
            refine hg_callT 4 (some 40) rfl rfl rfl 19 _ _ rfl Tryz.func19 (by kernel_rfl) rfl [.agg #[v1, v2], .int .i64 (1 + (r : Int))] (fun v w2 => ∃ (u1 u2 : Value) (l2 : List (Nat × TypeId × List Value)), v = .agg #[u1, u2] ∧ St none default w0 w2 (l2 ++ ((b3, 25, [v1, v2]) :: (b2, 25, [.slice none 0 0, .slice none 0 0]) :: (c, 47, codL a len cap p3) :: (lr ++ ll))) ∧ Kp v1 hs l2 u1 (cancelF (1 + (r : Int)) hs ws).1 ∧ Kp v2 ws l2 u2 (cancelF (1 + (r : Int)) hs ws).2) ((rf_cancel w v1 v2 hs ws (1 + (r : Int)) (HO1.out.at HS.out (fun e he => by simp [he])) (HO2.out.at HS.out (fun e he => by simp [he])) (by omega) (by omega)).mono (fun e w1 h => by obtain ⟨u1, u2, l2, rfl, h1, h2, h3⟩ := h; exact ⟨_, rfl, u1, u2, l2, rfl, HS.out.call h1, h2, h3⟩)) (fun v w2 h => by obtain ⟨u1, u2, l2, _, h1, _⟩ := h; exact h1.sub (List.nil_sublist _)) rfl ?_
            clear HS; rintro _ w ⟨u1, u2, l2, rfl, hst, hk1, hk2⟩
            have HS := St3A (Lib.hid hst)
            have HOA := Lib.hid (hk1.own HO1.out)
            have HOB := Lib.hid (hk2.own HO2.out)
            have HO : Hid (u1.oneCell' = true ∧ u2.oneCell' = true) := Lib.hid ⟨HOA.out.one, HOB.out.one⟩
            clear hst hk1 hk2
            try simp only [Act.put, List.setIfInBounds_toArray, List.set_cons_zero, List.set_cons_succ]
            refine hk_x1 5 (by kernel_rfl) ?_
            refine hg_store_all 5 rfl rfl HS 25 _ _ rfl rfl 0 b3 25 [v1, v2] rfl rfl [u1, u2] rfl 2 sh25 rfl rfl (by simp [HO.out.1, HO.out.2]) (List.nil_sublist _) ?_
            clear HS; intro w HS
            try simp only [Act.put, List.setIfInBounds_toArray, List.set_cons_zero, List.set_cons_succ]
            refine hk_done (by kernel_rfl) ?_
            replace HS : Hid (St none default w0 w ((b3, 25, [u1, u2]) :: (b2, 25, [.slice none 0 0, .slice none 0 0]) :: (c, 47, codL a len cap p3) :: ((l2 ++ lr) ++ ll))) := Lib.hid (by have h := HS.out; rw [List.append_assoc]; exact h)
            have hwl := without_len (fun _ => false) (fun g => g.tx == 1 + (r : Int)) hs ws
            have hwl2 : (cancelF (1 + (r : Int)) hs ws).1.length + (cancelF (1 + (r : Int)) hs ws).2.length ≤ hs.length + ws.length := hwl
            clear hwl
            go_wp2_with fail
            go_roundw
            case rel => exact ⟨k - 1, p3, (cancelF (1 + (r : Int)) hs ws).1, (cancelF (1 + (r : Int)) hs ws).2, u1, u2, l2 ++ lr, by go_num <;> omega, hp, by omega, HOA, HOB, HS⟩
            case measure => simp [intOf]; omega
        · skip
          have hd4 : ((z : Int) == 4) = false := by rw [beq_eq_false_iff_ne]; omega
          have hd5 : ((z : Int) == 5) = false := by rw [beq_eq_false_iff_ne]; omega
          go_wp2_with fail
          clear hd4 hd5
          go_cut [5, 6, 7, 16, 17, 18, 19, 20, 21, 22, 23] (fun s5 _ s7 _ _ _ _ _ _ _ _  wc => ∃ (E : Int) (b5 p3 : Nat) (u1 u2 : Value) (hs2 ws2 : List G) (l2 : List (Nat × TypeId × List Value)), s5 = .pointer (some ⟨b5, 0, none⟩) ∧ s7 = .int .i64 E ∧ p3 ≤ len ∧ Hid (u1.oneCell' = true ∧ u2.oneCell' = true) ∧ Hid (E = 0 → OwnIn (l2 ++ lr) u1 hs2 ∧ OwnIn (l2 ++ lr) u2 ws2 ∧ hs2.length + ws2.length ≤ hs.length + ws.length + 1) ∧ Hid (St none default w0 wc ((b5, 25, [u1, u2]) :: (b3, 25, [v1, v2]) :: (b2, 25, [.slice none 0 0, .slice none 0 0]) :: (c, 47, codL a len cap p3) :: (l2 ++ (lr ++ ll)))))
          case first =>
            refine hg_begin [(b3, 25, [v1, v2])] HS (by kernel_rfl) ?_
            clear HS; intro w HS
            refine hg_loads 0 (some 17) rfl rfl (by kernel_rfl) (by kernel_rfl) (by kernel_rfl) (fun _ _ _ _ h => h) HS (List.Sublist.cons_cons _ (List.nil_sublist _)) rfl 25 _ rfl 0 _ _ _ rfl 0 rfl 2 sh25 [v1, v2] rfl ⟨rfl, rfl, trivial⟩ ?_
            try simp only [Act.put, List.setIfInBounds_toArray, List.set_cons_zero, List.set_cons_succ]
            refine hg_reg 1 (some 18) rfl rfl (by kernel_rfl) (by kernel_rfl) (by kernel_rfl) (fun _ _ _ _ h => h) HS (List.Sublist.cons_cons _ (List.nil_sublist _)) (.pointer (some ⟨c, 0, none⟩)) rfl (fun _ => by rfl) ?_
            try simp only [Act.put, List.setIfInBounds_toArray, List.set_cons_zero, List.set_cons_succ]
            refine hk_x2 2 8 (by kernel_rfl) ?_ ?_
            · skip
              refine hg_callT 2 (some 19) rfl rfl rfl 14 _ _ rfl Tryz.func14 (by kernel_rfl) rfl [.pointer (some ⟨c, 0, none⟩)] (fun v w2 => ∃ (y : G) (p3 : Nat), v = .agg y.arr ∧ p3 ≤ len ∧ St none default w0 w2 ((b3, 25, [v1, v2]) :: (b2, 25, [.slice none 0 0, .slice none 0 0]) :: (c, 47, codL a len cap p3) :: (lr ++ ll))) ((grant_own (front := [(b3, 25, [v1, v2]), (b2, 25, [.slice none 0 0, .slice none 0 0])]) (ll := lr ++ ll) HS.out HBY.out hp hl).mono (fun e w1 h => by obtain ⟨y, p3, rfl, _, h3, _, _, h5⟩ := h; exact ⟨_, rfl, y, p3, rfl, h3, h5⟩)) (fun v w2 h => by obtain ⟨y, p3, _, _, h5⟩ := h; exact St.sub h5 (List.Sublist.cons_cons _ (List.nil_sublist _))) rfl ?_
              clear HS; rintro _ w ⟨y, p3, rfl, hp3, hst⟩
              have HS := Lib.hid hst
              replace hp := hp3
              clear hst hp3
              try simp only [Act.put, List.setIfInBounds_toArray, List.set_cons_zero, List.set_cons_succ]
              refine hk_x2 3 8 (by kernel_rfl) ?_ ?_
              · skip
                refine hg_callT 3 (some 20) rfl rfl rfl 20 _ _ rfl Tryz.func20 (by kernel_rfl) rfl [.agg #[v1, v2], .agg y.arr] (fun v w2 => ∃ (E : Int) (bb : Bool) (u1 u2 : Value) (hs2 ws2 : List G) (l2 : List (Nat × TypeId × List Value)), v = .tuple #[.agg #[u1, u2], .bool bb, .int .i64 E] ∧ (u1.oneCell' = true ∧ u2.oneCell' = true) ∧ (E = 0 → OwnIn (l2 ++ lr) u1 hs2 ∧ OwnIn (l2 ++ lr) u2 ws2 ∧ hs2.length + ws2.length ≤ hs.length + ws.length + 1) ∧ St none default w0 w2 (l2 ++ ((b3, 25, [v1, v2]) :: (b2, 25, [.slice none 0 0, .slice none 0 0]) :: (c, 47, codL a len cap p3) :: (lr ++ ll)))) ((rf_request w v1 v2 hs ws y (HO1.out.at HS.out (fun e he => by simp [he])) (HO2.out.at HS.out (fun e he => by simp [he])) (by omega) (by omega)).mono (fun e w1 h => by
                  rcases h with ⟨_, hE, rfl, hx⟩ | ⟨R, b, u1, u2, l2, hF, hE, rfl, h1, h2, h3⟩
                  · exact ⟨_, rfl, _, _, _, _, [], [], [], rfl, ⟨rfl, rfl⟩, fun h => absurd h hE, HS.out.ext hx⟩
                  · exact ⟨_, rfl, _, _, u1, u2, R.1, R.2, l2, rfl, ⟨(h2.own HO1.out).one, (h3.own HO2.out).one⟩, fun _ => ⟨h2.own HO1.out, h3.own HO2.out, req_len2 hF⟩, HS.out.call h1⟩)) (fun v w2 h => by obtain ⟨E, bb, u1, u2, hs2, ws2, l2, _, _, _, h1⟩ := h; exact h1.sub (List.Sublist.trans (List.Sublist.cons_cons _ (List.nil_sublist _)) (List.sublist_append_right l2 _))) rfl ?_
                clear HS; rintro _ w ⟨E, bb, u1, u2, hs2, ws2, l2, rfl, ho, hq, hst⟩
                have HS := St3A (Lib.hid hst)
                have HO := Lib.hid ho
                have HQ := Lib.hid hq
                clear hst ho hq
                try simp only [Act.put, List.setIfInBounds_toArray, List.set_cons_zero, List.set_cons_succ]
                refine hg_reg 4 (some 16) rfl rfl (by kernel_rfl) (by kernel_rfl) (by kernel_rfl) (fun _ _ _ _ h => h) HS (List.Sublist.cons_cons _ (List.nil_sublist _)) (.tuple #[.agg #[u1, u2], .bool bb, .int .i64 E]) rfl (fun _ => by rfl) ?_
                try simp only [Act.put, List.setIfInBounds_toArray, List.set_cons_zero, List.set_cons_succ]
                refine hg_reg 5 (some 21) rfl rfl (by kernel_rfl) (by kernel_rfl) (by kernel_rfl) (fun _ _ _ _ h => h) HS (List.Sublist.cons_cons _ (List.nil_sublist _)) (.agg #[u1, u2]) rfl (fun _ => by rfl) ?_
                try simp only [Act.put, List.setIfInBounds_toArray, List.set_cons_zero, List.set_cons_succ]
                refine hg_reg 6 (some 22) rfl rfl (by kernel_rfl) (by kernel_rfl) (by kernel_rfl) (fun _ _ _ _ h => h) HS (List.Sublist.cons_cons _ (List.nil_sublist _)) (.bool bb) rfl (fun _ => by rfl) ?_
                try simp only [Act.put, List.setIfInBounds_toArray, List.set_cons_zero, List.set_cons_succ]
                refine hg_reg 7 (some 23) rfl rfl (by kernel_rfl) (by kernel_rfl) (by kernel_rfl) (fun _ _ _ _ h => h) HS (List.Sublist.cons_cons _ (List.nil_sublist _)) (.int .i64 E) rfl (fun _ => by rfl) ?_
                try simp only [Act.put, List.setIfInBounds_toArray, List.set_cons_zero, List.set_cons_succ]
                refine hk_x1 8 (by kernel_rfl) ?_
                refine hg_alloc 8 (some 5) rfl rfl rfl HS (List.Sublist.cons_cons _ (List.nil_sublist _)) 25 rfl _ zr25 ?_
                clear HS; intro w b5 HS
                replace HS : Hid (St none default w0 w ((b5, 25, [.slice none 0 0, .slice none 0 0]) :: (b3, 25, [v1, v2]) :: (b2, 25, [.slice none 0 0, .slice none 0 0]) :: (c, 47, codL a len cap p3) :: (l2 ++ (lr ++ ll)))) := HS
                try simp only [Act.put, List.setIfInBounds_toArray, List.set_cons_zero, List.set_cons_succ]
                refine hk_x1 9 (by kernel_rfl) ?_
                refine hg_store_all 9 rfl rfl HS 25 _ _ rfl rfl 0 b5 25 [.slice none 0 0, .slice none 0 0] rfl rfl [u1, u2] rfl 2 sh25 rfl rfl (by simp [HO.out.1, HO.out.2]) (List.Sublist.cons _ (List.Sublist.cons_cons _ (List.nil_sublist _))) ?_
                clear HS; intro w HS
                try simp only [Act.put, List.setIfInBounds_toArray, List.set_cons_zero, List.set_cons_succ]
                refine hg_reg 10 (some 6) rfl rfl (by kernel_rfl) (by kernel_rfl) (by kernel_rfl) (fun _ _ _ _ h => h) HS (List.Sublist.cons _ (List.Sublist.cons_cons _ (List.nil_sublist _))) (.bool bb) rfl (fun _ => by rfl) ?_
                try simp only [Act.put, List.setIfInBounds_toArray, List.set_cons_zero, List.set_cons_succ]
                refine hg_reg 11 (some 7) rfl rfl (by kernel_rfl) (by kernel_rfl) (by kernel_rfl) (fun _ _ _ _ h => h) HS (List.Sublist.cons _ (List.Sublist.cons_cons _ (List.nil_sublist _))) (.int .i64 E) rfl (fun _ => by rfl) ?_
                try simp only [Act.put, List.setIfInBounds_toArray, List.set_cons_zero, List.set_cons_succ]
                refine hk_done (by kernel_rfl) ?_
                try go_wp2_with fail
                go_meet
                exact ⟨E, b5, p3, u1, u2, hs2, ws2, l2, rfl, rfl, hp, HO, HQ, HS⟩
              · skip
                refine hg_alloc 8 (some 5) rfl rfl rfl HS (List.Sublist.cons_cons _ (List.nil_sublist _)) 25 rfl _ zr25 ?_
                clear HS; intro w b5 HS
                replace HS : Hid (St none default w0 w ((b5, 25, [.slice none 0 0, .slice none 0 0]) :: (b3, 25, [v1, v2]) :: (b2, 25, [.slice none 0 0, .slice none 0 0]) :: (c, 47, codL a len cap p3) :: (lr ++ ll))) := HS
                try simp only [Act.put, List.setIfInBounds_toArray, List.set_cons_zero, List.set_cons_succ]
                refine hk_x1 3 (by kernel_rfl) ?_
                refine hg_callT 3 (some 20) rfl rfl rfl 20 _ _ rfl Tryz.func20 (by kernel_rfl) rfl [.agg #[v1, v2], .agg y.arr] (fun v w2 => ∃ (E : Int) (bb : Bool) (u1 u2 : Value) (hs2 ws2 : List G) (l2 : List (Nat × TypeId × List Value)), v = .tuple #[.agg #[u1, u2], .bool bb, .int .i64 E] ∧ (u1.oneCell' = true ∧ u2.oneCell' = true) ∧ (E = 0 → OwnIn (l2 ++ lr) u1 hs2 ∧ OwnIn (l2 ++ lr) u2 ws2 ∧ hs2.length + ws2.length ≤ hs.length + ws.length + 1) ∧ St none default w0 w2 (l2 ++ ((b5, 25, [.slice none 0 0, .slice none 0 0]) :: (b3, 25, [v1, v2]) :: (b2, 25, [.slice none 0 0, .slice none 0 0]) :: (c, 47, codL a len cap p3) :: (lr ++ ll)))) ((rf_request w v1 v2 hs ws y (HO1.out.at HS.out (fun e he => by simp [he])) (HO2.out.at HS.out (fun e he => by simp [he])) (by omega) (by omega)).mono (fun e w1 h => by
                  rcases h with ⟨_, hE, rfl, hx⟩ | ⟨R, b, u1, u2, l2, hF, hE, rfl, h1, h2, h3⟩
                  · exact ⟨_, rfl, _, _, _, _, [], [], [], rfl, ⟨rfl, rfl⟩, fun h => absurd h hE, HS.out.ext hx⟩
                  · exact ⟨_, rfl, _, _, u1, u2, R.1, R.2, l2, rfl, ⟨(h2.own HO1.out).one, (h3.own HO2.out).one⟩, fun _ => ⟨h2.own HO1.out, h3.own HO2.out, req_len2 hF⟩, HS.out.call h1⟩)) (fun v w2 h => by obtain ⟨E, bb, u1, u2, hs2, ws2, l2, _, _, _, h1⟩ := h; exact h1.sub (List.Sublist.trans (List.Sublist.cons _ (List.Sublist.cons_cons _ (List.nil_sublist _))) (List.sublist_append_right l2 _))) rfl ?_
                clear HS; rintro _ w ⟨E, bb, u1, u2, hs2, ws2, l2, rfl, ho, hq, hst⟩
                have HS := St4E (Lib.hid hst)
                have HO := Lib.hid ho
                have HQ := Lib.hid hq
                clear hst ho hq
                try simp only [Act.put, List.setIfInBounds_toArray, List.set_cons_zero, List.set_cons_succ]
                refine hg_reg 4 (some 16) rfl rfl (by kernel_rfl) (by kernel_rfl) (by kernel_rfl) (fun _ _ _ _ h => h) HS (List.Sublist.cons _ (List.Sublist.cons_cons _ (List.nil_sublist _))) (.tuple #[.agg #[u1, u2], .bool bb, .int .i64 E]) rfl (fun _ => by rfl) ?_
                try simp only [Act.put, List.setIfInBounds_toArray, List.set_cons_zero, List.set_cons_succ]
                refine hg_reg 5 (some 21) rfl rfl (by kernel_rfl) (by kernel_rfl) (by kernel_rfl) (fun _ _ _ _ h => h) HS (List.Sublist.cons _ (List.Sublist.cons_cons _ (List.nil_sublist _))) (.agg #[u1, u2]) rfl (fun _ => by rfl) ?_
                try simp only [Act.put, List.setIfInBounds_toArray, List.set_cons_zero, List.set_cons_succ]
                refine hg_reg 6 (some 22) rfl rfl (by kernel_rfl) (by kernel_rfl) (by kernel_rfl) (fun _ _ _ _ h => h) HS (List.Sublist.cons _ (List.Sublist.cons_cons _ (List.nil_sublist _))) (.bool bb) rfl (fun _ => by rfl) ?_
                try simp only [Act.put, List.setIfInBounds_toArray, List.set_cons_zero, List.set_cons_succ]
                refine hg_reg 7 (some 23) rfl rfl (by kernel_rfl) (by kernel_rfl) (by kernel_rfl) (fun _ _ _ _ h => h) HS (List.Sublist.cons _ (List.Sublist.cons_cons _ (List.nil_sublist _))) (.int .i64 E) rfl (fun _ => by rfl) ?_
                try simp only [Act.put, List.setIfInBounds_toArray, List.set_cons_zero, List.set_cons_succ]
                refine hk_x1 9 (by kernel_rfl) ?_
                refine hg_store_all 9 rfl rfl HS 25 _ _ rfl rfl 0 b5 25 [.slice none 0 0, .slice none 0 0] rfl rfl [u1, u2] rfl 2 sh25 rfl rfl (by simp [HO.out.1, HO.out.2]) (List.Sublist.cons _ (List.Sublist.cons_cons _ (List.nil_sublist _))) ?_
                clear HS; intro w HS
                try simp only [Act.put, List.setIfInBounds_toArray, List.set_cons_zero, List.set_cons_succ]
                refine hg_reg 10 (some 6) rfl rfl (by kernel_rfl) (by kernel_rfl) (by kernel_rfl) (fun _ _ _ _ h => h) HS (List.Sublist.cons _ (List.Sublist.cons_cons _ (List.nil_sublist _))) (.bool bb) rfl (fun _ => by rfl) ?_
                try simp only [Act.put, List.setIfInBounds_toArray, List.set_cons_zero, List.set_cons_succ]
                refine hg_reg 11 (some 7) rfl rfl (by kernel_rfl) (by kernel_rfl) (by kernel_rfl) (fun _ _ _ _ h => h) HS (List.Sublist.cons _ (List.Sublist.cons_cons _ (List.nil_sublist _))) (.int .i64 E) rfl (fun _ => by rfl) ?_
                try simp only [Act.put, List.setIfInBounds_toArray, List.set_cons_zero, List.set_cons_succ]
                refine hk_done (by kernel_rfl) ?_
                try go_wp2_with fail
                go_meet
                exact ⟨E, b5, p3, u1, u2, hs2, ws2, l2, rfl, rfl, hp, HO, HQ, HS⟩
            · skip
              refine hg_alloc 8 (some 5) rfl rfl rfl HS (List.Sublist.cons_cons _ (List.nil_sublist _)) 25 rfl _ zr25 ?_
              clear HS; intro w b5 HS
              replace HS : Hid (St none default w0 w ((b5, 25, [.slice none 0 0, .slice none 0 0]) :: (b3, 25, [v1, v2]) :: (b2, 25, [.slice none 0 0, .slice none 0 0]) :: (c, 47, codL a len cap p2) :: (lr ++ ll))) := HS
              try simp only [Act.put, List.setIfInBounds_toArray, List.set_cons_zero, List.set_cons_succ]
              refine hk_x1 2 (by kernel_rfl) ?_
              refine hg_callT 2 (some 19) rfl rfl rfl 14 _ _ rfl Tryz.func14 (by kernel_rfl) rfl [.pointer (some ⟨c, 0, none⟩)] (fun v w2 => ∃ (y : G) (p3 : Nat), v = .agg y.arr ∧ p3 ≤ len ∧ St none default w0 w2 ((b5, 25, [.slice none 0 0, .slice none 0 0]) :: (b3, 25, [v1, v2]) :: (b2, 25, [.slice none 0 0, .slice none 0 0]) :: (c, 47, codL a len cap p3) :: (lr ++ ll))) ((grant_own (front := [(b5, 25, [.slice none 0 0, .slice none 0 0]), (b3, 25, [v1, v2]), (b2, 25, [.slice none 0 0, .slice none 0 0])]) (ll := lr ++ ll) HS.out HBY.out hp hl).mono (fun e w1 h => by obtain ⟨y, p3, rfl, _, h3, _, _, h5⟩ := h; exact ⟨_, rfl, y, p3, rfl, h3, h5⟩)) (fun v w2 h => by obtain ⟨y, p3, _, _, h5⟩ := h; exact St.sub h5 (List.Sublist.cons _ (List.Sublist.cons_cons _ (List.nil_sublist _)))) rfl ?_
              clear HS; rintro _ w ⟨y, p3, rfl, hp3, hst⟩
              have HS := Lib.hid hst
              replace hp := hp3
              clear hst hp3
              try simp only [Act.put, List.setIfInBounds_toArray, List.set_cons_zero, List.set_cons_succ]
              refine hk_x1 3 (by kernel_rfl) ?_
              refine hg_callT 3 (some 20) rfl rfl rfl 20 _ _ rfl Tryz.func20 (by kernel_rfl) rfl [.agg #[v1, v2], .agg y.arr] (fun v w2 => ∃ (E : Int) (bb : Bool) (u1 u2 : Value) (hs2 ws2 : List G) (l2 : List (Nat × TypeId × List Value)), v = .tuple #[.agg #[u1, u2], .bool bb, .int .i64 E] ∧ (u1.oneCell' = true ∧ u2.oneCell' = true) ∧ (E = 0 → OwnIn (l2 ++ lr) u1 hs2 ∧ OwnIn (l2 ++ lr) u2 ws2 ∧ hs2.length + ws2.length ≤ hs.length + ws.length + 1) ∧ St none default w0 w2 (l2 ++ ((b5, 25, [.slice none 0 0, .slice none 0 0]) :: (b3, 25, [v1, v2]) :: (b2, 25, [.slice none 0 0, .slice none 0 0]) :: (c, 47, codL a len cap p3) :: (lr ++ ll)))) ((rf_request w v1 v2 hs ws y (HO1.out.at HS.out (fun e he => by simp [he])) (HO2.out.at HS.out (fun e he => by simp [he])) (by omega) (by omega)).mono (fun e w1 h => by
                rcases h with ⟨_, hE, rfl, hx⟩ | ⟨R, b, u1, u2, l2, hF, hE, rfl, h1, h2, h3⟩
                · exact ⟨_, rfl, _, _, _, _, [], [], [], rfl, ⟨rfl, rfl⟩, fun h => absurd h hE, HS.out.ext hx⟩
                · exact ⟨_, rfl, _, _, u1, u2, R.1, R.2, l2, rfl, ⟨(h2.own HO1.out).one, (h3.own HO2.out).one⟩, fun _ => ⟨h2.own HO1.out, h3.own HO2.out, req_len2 hF⟩, HS.out.call h1⟩)) (fun v w2 h => by obtain ⟨E, bb, u1, u2, hs2, ws2, l2, _, _, _, h1⟩ := h; exact h1.sub (List.Sublist.trans (List.Sublist.cons _ (List.Sublist.cons_cons _ (List.nil_sublist _))) (List.sublist_append_right l2 _))) rfl ?_
              clear HS; rintro _ w ⟨E, bb, u1, u2, hs2, ws2, l2, rfl, ho, hq, hst⟩
              have HS := St4E (Lib.hid hst)
              have HO := Lib.hid ho
              have HQ := Lib.hid hq
              clear hst ho hq
              try simp only [Act.put, List.setIfInBounds_toArray, List.set_cons_zero, List.set_cons_succ]
              refine hg_reg 4 (some 16) rfl rfl (by kernel_rfl) (by kernel_rfl) (by kernel_rfl) (fun _ _ _ _ h => h) HS (List.Sublist.cons _ (List.Sublist.cons_cons _ (List.nil_sublist _))) (.tuple #[.agg #[u1, u2], .bool bb, .int .i64 E]) rfl (fun _ => by rfl) ?_
              try simp only [Act.put, List.setIfInBounds_toArray, List.set_cons_zero, List.set_cons_succ]
              refine hg_reg 5 (some 21) rfl rfl (by kernel_rfl) (by kernel_rfl) (by kernel_rfl) (fun _ _ _ _ h => h) HS (List.Sublist.cons _ (List.Sublist.cons_cons _ (List.nil_sublist _))) (.agg #[u1, u2]) rfl (fun _ => by rfl) ?_
              try simp only [Act.put, List.setIfInBounds_toArray, List.set_cons_zero, List.set_cons_succ]
              refine hg_reg 6 (some 22) rfl rfl (by kernel_rfl) (by kernel_rfl) (by kernel_rfl) (fun _ _ _ _ h => h) HS (List.Sublist.cons _ (List.Sublist.cons_cons _ (List.nil_sublist _))) (.bool bb) rfl (fun _ => by rfl) ?_
              try simp only [Act.put, List.setIfInBounds_toArray, List.set_cons_zero, List.set_cons_succ]
              refine hg_reg 7 (some 23) rfl rfl (by kernel_rfl) (by kernel_rfl) (by kernel_rfl) (fun _ _ _ _ h => h) HS (List.Sublist.cons _ (List.Sublist.cons_cons _ (List.nil_sublist _))) (.int .i64 E) rfl (fun _ => by rfl) ?_
              try simp only [Act.put, List.setIfInBounds_toArray, List.set_cons_zero, List.set_cons_succ]
              refine hk_x1 9 (by kernel_rfl) ?_
              refine hg_store_all 9 rfl rfl HS 25 _ _ rfl rfl 0 b5 25 [.slice none 0 0, .slice none 0 0] rfl rfl [u1, u2] rfl 2 sh25 rfl rfl (by simp [HO.out.1, HO.out.2]) (List.Sublist.cons _ (List.Sublist.cons_cons _ (List.nil_sublist _))) ?_
              clear HS; intro w HS
              try simp only [Act.put, List.setIfInBounds_toArray, List.set_cons_zero, List.set_cons_succ]
              refine hg_reg 10 (some 6) rfl rfl (by kernel_rfl) (by kernel_rfl) (by kernel_rfl) (fun _ _ _ _ h => h) HS (List.Sublist.cons _ (List.Sublist.cons_cons _ (List.nil_sublist _))) (.bool bb) rfl (fun _ => by rfl) ?_
              try simp only [Act.put, List.setIfInBounds_toArray, List.set_cons_zero, List.set_cons_succ]
              refine hg_reg 11 (some 7) rfl rfl (by kernel_rfl) (by kernel_rfl) (by kernel_rfl) (fun _ _ _ _ h => h) HS (List.Sublist.cons _ (List.Sublist.cons_cons _ (List.nil_sublist _))) (.int .i64 E) rfl (fun _ => by rfl) ?_
              try simp only [Act.put, List.setIfInBounds_toArray, List.set_cons_zero, List.set_cons_succ]
              refine hk_done (by kernel_rfl) ?_
              try go_wp2_with fail
              go_meet
              exact ⟨E, b5, p3, u1, u2, hs2, ws2, l2, rfl, rfl, hp, HO, HQ, HS⟩
          case rest =>
            clear HS hp
            obtain ⟨E, b5, p3, u1, u2, hs2, ws2, l2, rfl, rfl, hp, HO, HQ, HS⟩ := hcut
            by_cases hE : E = 0
            · skip
              obtain ⟨hoa, hob, hln⟩ := HQ.out hE
              have HOA := Lib.hid hoa
              have HOB := Lib.hid hob
              clear hoa hob
              subst hE
              go_wp2_with (first | (refine sx_loads HS (by rfl) 25 (.tmp 5) rfl 0 _ _ _ rfl 0 rfl 2 sh25 [u1, u2] rfl ⟨rfl, rfl, trivial⟩ ?_) | (refine sx_store_all HS (by rfl) 25 _ _ rfl rfl 1 _ _ _ rfl rfl [u1, u2] rfl 2 sh25 rfl rfl (by simp [HO.out.1, HO.out.2]) ?_; clear HS; intro w HS))
              replace HS : Hid (St none default w0 w ((b3, 25, [u1, u2]) :: (b2, 25, [.slice none 0 0, .slice none 0 0]) :: (c, 47, codL a len cap p3) :: ((l2 ++ lr) ++ ll))) := Lib.hid (by have h := HS.out.drop 1; rw [List.append_assoc]; exact h)
              go_roundw
              case rel => exact ⟨k - 1, p3, hs2, ws2, u1, u2, l2 ++ lr, by go_num <;> omega, hp, by omega, HOA, HOB, HS⟩
              case measure => simp [intOf]; omega
            · skip
              have hdE : (E == 0) = false := by rw [beq_eq_false_iff_ne]; exact hE
              have HEE := Lib.hid hE
              clear hE
              go_wp2_with fail
              replace HS : Hid (St none default w0 _ ((b3, 25, [v1, v2]) :: (b2, 25, [.slice none 0 0, .slice none 0 0]) :: (c, 47, codL a len cap p3) :: (lr ++ ll))) := Lib.hid ((HS.out.drop 1).sub (by simp))
              have HOA := HO1
              have HOB := HO2
              go_roundw
              case rel => exact ⟨k - 1, p3, hs, ws, v1, v2, lr, by go_num <;> omega, hp, by omega, HOA, HOB, HS⟩
              case measure => simp [intOf]; omega
end Go.Proofs.YtnfkplohpjfocaaGreat
