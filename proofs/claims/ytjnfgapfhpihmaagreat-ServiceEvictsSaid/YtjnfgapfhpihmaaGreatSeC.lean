/-
  The contract of pagemenddraw's Next on codes that are frozen: the choice and the place behind it, by their names.
-/
import Derived.Test.YtjnfgapfhpihmaaGreatSeZ
import Derived.Outline
import Derived.WalkSmall
set_option linter.unusedVariables false
set_option linter.unusedSimpArgs false
namespace Go.Proofs.YtjnfgapfhpihmaaGreat
open Go.RowKit
def shB : Sh := .i .u8 .nil
set_option maxHeartbeats 400000 in
theorem next_none (c o : Nat) (n : Nat) (w : World) (a : Option Addr) (len cap pos : Nat) (c0 : w.cell? ⟨c, o, none⟩ = some (.slice a len cap)) (c1 : w.cell? ⟨c, o + 1, none⟩ = some (.int .i64 pos)) (hl : len ≤ 65536) (hp : len ≤ pos) :
    Calls Tryz.prog 9 #[.pointer (some ⟨c, o, none⟩), .int .i64 n] w fun e w' => e = .returned (.int .i64 0) ∧ ∃ k, w' = w.drewN k := by
  have fin : ∀ k, (.returned (.int .i64 0) : Ending) = .returned (.int .i64 0) ∧ ∃ j, w.drewN k = w.drewN j := fun k => ⟨rfl, k, rfl⟩
  have HF := Lib.hid fin
  clear fin
  have d1 : decide ((len : Int) ≤ (pos : Int)) = true := by simp; omega
  go_enter Tryz.func9, Tryz.ntmps9
  go_wp2
  go_quiet (fail)
  go_wp2
  go_ret
  exact ⟨rfl, _, rfl⟩
set_option maxHeartbeats 400000 in
theorem next_some (c o : Nat) (n : Nat) (w : World) (blk off : Nat) (len cap pos x : Nat) (c0 : w.cell? ⟨c, o, none⟩ = some (.slice (some ⟨blk, off, none⟩) len cap)) (c1 : w.cell? ⟨c, o + 1, none⟩ = some (.int .i64 pos)) (f1 : w.frozen? ⟨c, o + 1, none⟩ = false) (hp : pos < len) (hl : len ≤ 65536)
    (hx : x < 256) (hcell : w.cell? ⟨blk, off + pos, none⟩ = some (.int .u8 x)) (hn : 1 ≤ n) (hn2 : n ≤ 256) :
    Calls Tryz.prog 9 #[.pointer (some ⟨c, o, none⟩), .int .i64 n] w fun e w' => e = .returned (.int .i64 ((x : Int) % (n : Int))) ∧ ∃ k, w' = (w.setCell ⟨c, o + 1, none⟩ (.int .i64 ((pos : Int) + 1))).drewN k := by
  have fin : ∀ k, (.returned (.int .i64 ((x : Int) % (n : Int))) : Ending) = .returned (.int .i64 ((x : Int) % (n : Int))) ∧ ∃ j, (w.setCell ⟨c, o + 1, none⟩ (.int .i64 ((pos : Int) + 1))).drewN k = (w.setCell ⟨c, o + 1, none⟩ (.int .i64 ((pos : Int) + 1))).drewN j := fun k => ⟨rfl, k, rfl⟩
  have HF := Lib.hid fin
  clear fin
  have d1 : decide ((len : Int) ≤ (pos : Int)) = false := by simp; omega
  have d2 : decide ((n : Int) < 1) = false := by simp; omega
  have d3 : decide (256 < (n : Int)) = false := by simp; omega
  go_enter Tryz.func9, Tryz.ntmps9
  go_wp2
  go_quiet (fail)
  go_wp2
  go_quiet (fail)
  go_wp2
  go_ret
  exact ⟨rfl, _, rfl⟩
noncomputable def natNx (F : List Fc) (vs : List AV) (h : Hp) : RO := match vs with
  | [.c (.p id o), .c (.i .i64 (.ofNat n))] => ro (h.lds id o 2) fun l => match l with
    | [.ds e q, c] => ro (nmI c) fun x => br ((decide (e = shB) && isI64 x.1) && ((fdP F 12 [q] && numIn F c 0 200) && (Nat.ble 1 n && Nat.ble n 256))) (ro (h.sts id (Nat.add o 1) [.si .i64 (.f2 4001 q x.2)]) fun h' => .ok (.c (conF F .i64 (.f2 4000 q (.f2 2002 x.2 (.num (.ofNat n)))))) h')
    | _ => .no
  | _ => .no
theorem rowD_B {z : Nat → Option Obj} {row : List DV} {vs : List Value} (h : RowD z shB row vs) : ∃ a, row = [.i a] ∧ vs = [.int .u8 a] := by
  obtain ⟨a, l1, v1, rfl, rfl, rfl, rfl⟩ := h
  exact ⟨a, rfl, rfl⟩
theorem entNx (args : Array Value) (w : World) : (callFunc 9 args).run Tryz.prog w = .ok (.enter 9 args) w := enter_run Tryz.func9 (by kernel_rfl) rfl args w
theorem natNx_ok (F : List Fc) : EntOk Tryz.prog (envR F) ⟨.x0, .x0, .x9⟩ (.natm (natNx F)) := by
  refine ⟨entNx, ?_⟩
  intro vs v h h' hv ρ φ w us he hr hu
  have hp := envR_prop he
  have hv' : natNx F vs h = .ok v h' := hv
  unfold natNx at hv'
  split at hv'
  · rename_i id o n
    obtain ⟨l, hl, hv2⟩ := ro_ok hv'
    split at hv2
    · rename_i e q c
      obtain ⟨x, hx, hv3⟩ := ro_ok hv2
      obtain ⟨hb, hv4⟩ := br_ok hv3
      obtain ⟨h2, hst, hv5⟩ := ro_ok hv4
      cases hv5
      simp only [Bool.and_eq_true, decide_eq_true_eq] at hb
      obtain ⟨⟨rfl, b2⟩, ⟨b3, b4⟩, b5, b6⟩ := hb
      have b5 := Nat.le_of_ble_eq_true b5
      have b6 := Nat.le_of_ble_eq_true b6
      obtain ⟨hD1, hD2⟩ := (show BytesD (ρ.d q) from fdP_ok hp.2 b3)
      cases hu with
      | cons a1 t1 =>
        cases t1 with
        | cons a2 t2 =>
          cases t2
          obtain ⟨b, base, tot, hφ, rfl⟩ := a1
          cases (show _ = Value.int .i64 (n : Int) from a2)
          have hφ' : φ id = some (b, base, tot) := hφ
          obtain ⟨bb, base', tot', ws, k1, k2, k3, k4⟩ := hr.lds hl
          rw [hφ'] at k1
          cases k1
          cases k3 with
          | @cons _ v1 _ _ y1 k5 =>
            cases k5 with
            | @cons _ v2 _ _ y2 k6 =>
              cases k6
              have c0 := k4 0 _ rfl
              have c1 := k4 1 _ rfl
              rw [Nat.add_zero] at c0
              have y1' : SlD φ.z shB (ρ.d q) v1 := y1
              obtain ⟨p, cap, rfl, hcap, hz⟩ := y1'
              obtain ⟨at', rfl, p0, p1⟩ := numIn_ok hp.1 hp.2 b4 y2
              have ea : at' = ρ.i x.2 := by
                have := nmI_ok hp.1.toStdA hx y2
                injection this
              obtain ⟨pos, rfl⟩ := Int.eq_ofNat_of_zero_le p0
              have hadv : ρ.i (.f2 4001 q x.2) = advF (ρ.d q) pos := by rw [(envR_pp he).adv, ← ea]
              have hnx : ρ.i (.f2 4000 q (.f2 2002 x.2 (.num (.ofNat n)))) = nxtF (ρ.d q) pos n := by rw [(envR_pp he).nx, ← ea]; rfl
              have hres : ∀ m : Int, nxtF (ρ.d q) pos n = m → VC ρ φ (conF F .i64 (.f2 4000 q (.f2 2002 x.2 (.num (.ofNat n))))) (.int .i64 m) := fun m hm => by
                have := conF_ok (φ := φ) hp.1 hp.2 .i64 (.f2 4000 q (.f2 2002 x.2 (.num (.ofNat n))))
                rw [hnx, hm] at this
                exact this
              obtain ⟨b', base', arr, T, j1, j2, j3, S⟩ := hr.sts (l := [.si .i64 (.f2 4001 q x.2)]) (vs := [.int .i64 (advF (ρ.d q) pos)]) (.cons (by show Value.int .i64 _ = .int .i64 (ρ.i _); rw [hadv]) .nil) hst
              rw [hφ'] at j1
              cases j1
              have hsz : base + (o + 1) + 1 ≤ arr.size := j3
              have hpl : base + (o + 1) = base + o + 1 := by omega
              have hset : (arr.toList.take (base + Nat.add o 1) ++ [Value.int .i64 (advF (ρ.d q) pos)] ++ arr.toList.drop (base + Nat.add o 1 + 1)).toArray = arr.setIfInBounds (base + o + 1) (.int .i64 (advF (ρ.d q) pos)) := by
                apply Array.ext'
                rw [Array.toList_setIfInBounds, List.set_eq_take_append_cons_drop, if_pos (by rw [Array.length_toList]; omega)]
                show _ = arr.toList.take (base + (o + 1)) ++ _ :: arr.toList.drop (base + (o + 1) + 1)
                simp [Nat.add_eq]
              have hcells : ∀ w', (∀ j, w'.heap[j]? = (w.setRow b (arr.setIfInBounds (base + o + 1) (.int .i64 (advF (ρ.d q) pos)))).heap[j]?) → w'.heap.size = w.heap.size → w'.os = w.os → w'.tape = w.tape → w'.output = w.output → Stp ρ φ h w φ h' w' := fun w' g1 g2 g3 g4 g5 => by
                have S' : Stp ρ φ h w φ h' (w.setRow b (arr.setIfInBounds (base + o + 1) (.int .i64 (advF (ρ.d q) pos)))) := by rw [← hset]; exact S
                exact S'.trans (Stp.grow S'.rel (by rw [g2]; simp) (fun j _ => g1 j) (g3.trans S'.os.symm) (g4.trans S'.tape.symm) (g5.trans S'.output.symm))
              by_cases hlt : pos < (ρ.d q).length
              · obtain ⟨row, hrow⟩ := list_cases hlt
                obtain ⟨xv, rfl, x0, x1⟩ := hD2 row (List.mem_of_getElem? hrow)
                rcases hz with hz | ⟨bk, off, ar2, T2, fz, rfl, hzz, hrows⟩
                · rw [hz] at hlt; exact absurd hlt (Nat.not_lt_zero _)
                · obtain ⟨xa, e1, e2⟩ := rowD_B (hrows pos _ hrow)
                  cases e1
                  have hcell : w.cell? ⟨bk, off + pos, none⟩ = some (.int .u8 xv) := by
                    refine cell_of_frozen (φ := φ) (off := 0) (z := φ.z) hr hzz _ ?_
                    have h7 : ((ar2.toList.drop (off + pos * 1)).take 1)[0]? = some (Value.int .u8 xv) := by
                      rw [show (ar2.toList.drop (off + pos * 1)).take 1 = _ from e2]; rfl
                    rw [List.getElem?_take_of_lt (by decide), List.getElem?_drop, Nat.add_zero, Nat.mul_one, Array.getElem?_toList] at h7
                    exact h7
                  obtain ⟨xn, rfl⟩ := Int.eq_ofNat_of_zero_le x0
                  have hadv2 : advF (ρ.d q) pos = (pos : Int) + 1 := by unfold advF; rw [if_pos (by omega)]
                  have hnx2 : nxtF (ρ.d q) pos n = (xn : Int) % (n : Int) := by
                    unfold nxtF
                    rw [show ((pos : Int)).toNat = pos from rfl, hrow]
                  refine (next_some b (base + o) n w bk off _ cap pos xn c0 c1 (frozen_of_row w b _ arr T j2) hlt (by omega) (by omega) hcell b5 b6).mono ?_
                  rintro en w' ⟨rfl, k, rfl⟩
                  refine ⟨_, φ, rfl, hres _ hnx2, hcells _ (fun j => ?_) ?_ ?_ ?_ ?_⟩
                  · rw [hadv2, ← setCell_eq_setRow w b (base + o + 1) arr T (0, 0) _ j2] <;> rfl
                  · rw [setCell_eq_setRow w b (base + o + 1) arr T (0, 0) _ j2]
                    show (w.setRow b _).heap.size = _
                    simp
                  · rw [setCell_eq_setRow w b (base + o + 1) arr T (0, 0) _ j2] <;> rfl
                  · rw [setCell_eq_setRow w b (base + o + 1) arr T (0, 0) _ j2] <;> rfl
                  · rw [setCell_eq_setRow w b (base + o + 1) arr T (0, 0) _ j2] <;> rfl
              · have hadv2 : advF (ρ.d q) pos = (pos : Int) := by unfold advF; rw [if_neg (by omega)]
                have hnx2 : nxtF (ρ.d q) pos n = 0 := by
                  unfold nxtF
                  rw [show ((pos : Int)).toNat = pos from rfl, List.getElem?_eq_none (by omega)]
                refine (next_none b (base + o) n w p _ cap pos c0 c1 (by omega) (by omega)).mono ?_
                rintro en w' ⟨rfl, k, rfl⟩
                refine ⟨_, φ, rfl, hres _ hnx2, hcells _ (fun j => ?_) rfl rfl rfl rfl⟩
                have hsame : arr.setIfInBounds (base + o + 1) (.int .i64 (advF (ρ.d q) pos)) = arr := by
                  have h8 : arr[base + o + 1]? = some (.int .i64 (pos : Int)) := by
                    rw [cell_of_row w b _ arr T _ j2] at c1; exact c1
                  rw [hadv2]
                  apply Array.ext'
                  rw [Array.toList_setIfInBounds]
                  rw [← Array.getElem?_toList] at h8
                  obtain ⟨h9, h10⟩ := List.getElem?_eq_some_iff.1 h8
                  rw [← h10]
                  exact List.set_getElem_self h9
                rw [hsame]
                by_cases hj : j = b
                · subst hj
                  rw [setRow_heap w j arr arr T (0, 0) j2]; exact j2
                · rw [setRow_other _ _ _ _ hj] <;> rfl
    · cases hv2
  · cases hv'
end Go.Proofs.YtjnfgapfhpihmaaGreat
