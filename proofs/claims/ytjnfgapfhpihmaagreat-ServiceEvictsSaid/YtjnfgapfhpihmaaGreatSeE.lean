/-
  The contract of pageindex.Valid at rows of the call's own, seen as frozen.
-/
import Derived.Test.YtjnfgapfhpihmaaGreatSeC
import Derived.Test.YtjnfgapfhpihmaaGreatKS0
set_option linter.unusedVariables false
set_option linter.unusedSimpArgs false
set_option maxRecDepth 100000
namespace Go.Proofs.YtjnfgapfhpihmaaGreat
open Go.RowKit
def shR3 : Sh := .i .i64 (.i .i64 (.i .i64 .nil))
def rv3 (xs : List Int) : List Value := (xs.map fun x => [Value.int .i64 x, .int .i64 0, .int .i64 0]).flatten
def d3 (xs : List Int) : List (List DV) := xs.map fun x => [.i x, .i 0, .i 0]
theorem rv3_row (z : Nat → Option Obj) : ∀ {xs : List Int} {j : Nat} {row : List DV}, (d3 xs)[j]? = some row → RowD z shR3 row (((rv3 xs).drop (j * 3)).take 3)
  | [], j, row, h => by simp [d3] at h
  | x :: l, 0, row, h => by
    cases (show some [DV.i x, .i 0, .i 0] = some row from h)
    exact ⟨x, _, _, rfl, rfl, 0, _, _, rfl, rfl, 0, _, _, rfl, rfl, rfl, rfl⟩
  | x :: l, j + 1, row, h => by
    have h' : (d3 l)[j]? = some row := h
    have e : (rv3 (x :: l)).drop ((j + 1) * 3) = (rv3 l).drop (j * 3) := by
      show ([Value.int .i64 x, .int .i64 0, .int .i64 0] ++ rv3 l).drop ((j + 1) * 3) = _
      rw [show (j + 1) * 3 = 3 + j * 3 by omega, ← List.drop_drop]
      rfl
    rw [e]
    exact rv3_row z h'
def okRows (F : List Fc) : List AC → Bool
  | [] => true
  | a :: b :: c :: l => (numIn F a 0 4000 && (decide (b = .i .i64 (.ofNat 0)) && decide (c = .i .i64 (.ofNat 0)))) && okRows F l
  | _ => false
theorem okRows_ok {F : List Fc} {ρ : Vn} {φ : Emb} (hs : StdF ρ) (hF : ∀ f ∈ F, f.holds QR ρ) : ∀ {l : List AC} {vs : List Value}, okRows F l = true → All2 (VC ρ φ) l vs → ∃ xs : List Int, vs = rv3 xs ∧ (∀ x ∈ xs, 0 ≤ x ∧ x ≤ 4000) ∧ vs.length = xs.length * 3
  | [], vs, _, h => by cases h; exact ⟨[], rfl, fun x hx => (nomatch hx), rfl⟩
  | [_], _, e, _ => by cases e
  | [_, _], _, e, _ => by cases e
  | a :: b :: c :: l, vs, e, h => by
    have e' : ((numIn F a 0 4000 && (decide (b = .i .i64 (.ofNat 0)) && decide (c = .i .i64 (.ofNat 0)))) && okRows F l) = true := e
    simp only [Bool.and_eq_true, decide_eq_true_eq] at e'
    obtain ⟨⟨e1, rfl, rfl⟩, e4⟩ := e'
    cases h with
    | cons h1 t1 =>
      cases t1 with
      | cons h2 t2 =>
        cases t2 with
        | cons h3 t3 =>
          obtain ⟨x, rfl, x0, x1⟩ := numIn_ok hs hF e1 h1
          obtain ⟨xs, rfl, hb, hl⟩ := okRows_ok hs hF e4 t3
          cases (show _ = Value.int .i64 0 from h2)
          cases (show _ = Value.int .i64 0 from h3)
          refine ⟨x :: xs, rfl, fun y hy => ?_, ?_⟩
          · rcases List.mem_cons.1 hy with rfl | hy
            · exact ⟨x0, x1⟩
            · exact hb y hy
          · simp only [List.length_cons, hl]
            omega
noncomputable def fRow3 (k : Nat) : List Fc := @Nat.rec (fun _ => List Fc) [] (fun i ih => .rng (cQ (.v 0) i 0) 0 4000 :: .rng (cQ (.v 0) i 1) 0 0 :: .rng (cQ (.v 0) i 2) 0 0 :: ih) k
noncomputable def factsI (n : Nat) : List Fc := .rng (.f1 5 (.v 0)) (.ofNat n) (.ofNat n) :: fRow3 n
theorem fRow3_ok {ρ : Vn} (hs : StdF ρ) {xs : List Int} (hq : ρ.d (.v 0) = d3 xs) (hb : ∀ x ∈ xs, 0 ≤ x ∧ x ≤ 4000) : ∀ k, k ≤ xs.length → ∀ f ∈ fRow3 k, f.holds QR ρ
  | 0, _ => facts_nil
  | k + 1, hk => by
    obtain ⟨x, hx⟩ := list_cases (d := xs) (i := k) (by omega)
    have hrow : (ρ.d (.v 0))[k]? = some [.i x, .i 0, .i 0] := by rw [hq]; unfold d3; rw [List.getElem?_map, hx]; rfl
    have go : ∀ o m, o < 900 → ([DV.i x, .i 0, .i 0])[o]? = some (.i m) → ρ.i (cQ (.v 0) k o) = m := fun o m ho hm => by
      have := hs.ci o (.v 0) (.num (.ofNat k)) ho
      rw [hs.num, show ((Int.ofNat k : Int)) = ((k : Nat) : Int) from rfl, cell_row hrow, hm] at this
      exact this
    have h0 := go 0 x (by decide) rfl
    have h1 := go 1 0 (by decide) rfl
    have h2 := go 2 0 (by decide) rfl
    have h4 := hb x (List.mem_of_getElem? hx)
    exact facts_cons (show (0 : Int) ≤ ρ.i (cQ (.v 0) k 0) ∧ ρ.i (cQ (.v 0) k 0) ≤ 4000 by omega) (facts_cons (show (0 : Int) ≤ ρ.i (cQ (.v 0) k 1) ∧ ρ.i (cQ (.v 0) k 1) ≤ 0 by omega) (facts_cons (show (0 : Int) ≤ ρ.i (cQ (.v 0) k 2) ∧ ρ.i (cQ (.v 0) k 2) ≤ 0 by omega) (fRow3_ok hs hq hb k (by omega))))
noncomputable def tblPI : Tab := tabOf [(⟨.x0, .x3, .x6⟩, c54), (⟨.x0, .x7, .xc⟩, c124), (⟨.x0, .xc, .x5⟩, c197), (⟨.x0, .x7, .xd⟩, c125), (⟨.x0, .x7, .xe⟩, c126)]
theorem tblPI_ok {E : Env} : TabOk Tryz.prog E tblPI := tab_cons (tab_cons (tab_cons (tab_cons (tab_cons tab_nil e126) e125) e197) e124) e54
noncomputable def runPI (n : Nat) : Bool := isTrue (callBy tblPI (aev Tryz.prog (envR (factsI n)) tblPI (nat_lit 100)) ⟨.x0, .x3, .x6⟩ [.a [.ds shR3 (.v (nat_lit 0))]] hp0)
theorem runPI1 : runPI 1 = true := by kernel_rfl
theorem runPI2 : runPI 2 = true := by kernel_rfl
theorem runPI3 : runPI 3 = true := by kernel_rfl
theorem runPI4 : runPI 4 = true := by kernel_rfl
theorem runPI5 : runPI 5 = true := by kernel_rfl
theorem runPI6 : runPI 6 = true := by kernel_rfl
theorem runPI7 : runPI 7 = true := by kernel_rfl
theorem runPI_at (n : Nat) (h0 : 1 ≤ n) (h7 : n ≤ 7) : runPI n = true := match n, h0, h7 with
  | 1, _, _ => runPI1
  | 2, _, _ => runPI2
  | 3, _, _ => runPI3
  | 4, _, _ => runPI4
  | 5, _, _ => runPI5
  | 6, _, _ => runPI6
  | 7, _, _ => runPI7
  | 0, h0, _ => absurd h0 (by decide)
  | n + 8, _, h7 => absurd h7 (by omega)
def slAt : AC → Option (Bid × Nat)
  | .su id 0 n _ es => bif Nat.beq es 3 then some (id, n) else none
  | .sl id 0 n cap => bif Nat.ble n cap then some (id, n) else none
  | _ => none
theorem slAt_ok {ρ : Vn} {φ : Emb} {c : AC} {id : Bid} {n : Nat} (e : slAt c = some (id, n)) {v : Value} (hv : VC ρ φ c v) : ∃ b base tot cap, φ id = some (b, base, tot) ∧ v = .slice (some ⟨b, base, none⟩) n cap ∧ n ≤ cap := by
  unfold slAt at e
  split at e
  · rename_i id' n' lb es
    cases hb : Nat.beq es 3 with
    | false => rw [hb] at e; cases e
    | true =>
      rw [hb] at e
      cases e
      obtain ⟨b, base, tot, cap, h1, rfl, h3, h4, _⟩ := hv
      exact ⟨b, base, tot, cap, h1, by rw [Nat.add_zero], by omega⟩
  · rename_i id' n' cap
    cases hb : Nat.ble n' cap with
    | false => rw [hb] at e; cases e
    | true =>
      rw [hb] at e
      cases e
      obtain ⟨b, base, tot, h1, rfl⟩ := hv
      exact ⟨b, base, tot, cap, h1, by rw [Nat.add_zero], Nat.le_of_ble_eq_true hb⟩
  · cases e
noncomputable def natPI (F : List Fc) (vs : List AV) (h : Hp) : RO := match vs with
  | [.a [c]] => ro (slAt c) fun x => br (Nat.ble 1 x.2 && Nat.ble x.2 7) (ro (h.lds x.1 0 (Nat.mul x.2 3)) fun l => br (okRows F l) (.ok (.c (.b true)) h))
  | _ => .no
theorem entPI (args : Array Value) (w : World) : (callFunc 54 args).run Tryz.prog w = .ok (.enter 54 args) w := enter_run Tryz.func54 (by kernel_rfl) rfl args w
theorem natPI_ok (F : List Fc) : EntOk Tryz.prog (envR F) ⟨.x0, .x3, .x6⟩ (.natm (natPI F)) := by
  refine ⟨entPI, ?_⟩
  intro vs v h h' hv ρ φ w us he hr hu
  have hp := envR_prop he
  have hv' : natPI F vs h = .ok v h' := hv
  unfold natPI at hv'
  split at hv'
  · rename_i c
    obtain ⟨⟨id, n⟩, hsl, hv2⟩ := ro_ok hv'
    obtain ⟨hb, hv3⟩ := br_ok hv2
    obtain ⟨l, hl, hv4⟩ := ro_ok hv3
    obtain ⟨hok, hv5⟩ := br_ok hv4
    cases hv5
    rw [Bool.and_eq_true] at hb
    have n1 : 1 ≤ n := Nat.le_of_ble_eq_true hb.1
    have n7 : n ≤ 7 := Nat.le_of_ble_eq_true hb.2
    cases hu with
    | cons a1 t1 =>
      cases t1
      obtain ⟨xs, rfl, hx⟩ := a1
      cases hx with
      | cons x1 t2 =>
        cases t2
        obtain ⟨b, base, tot, cap, hφ, rfl, hcap⟩ := slAt_ok hsl x1
        obtain ⟨cc, hc1, hc2⟩ := ob_some hl
        obtain ⟨bk, hg, hk⟩ := ob_some hc1
        cases bk with
        | map l => cases hk
        | row e y => cases hk
        | cells c' =>
          cases hk
          obtain ⟨b', base', arr, T, j1, j2, j3⟩ := hr.cells id _ hg
          rw [hφ] at j1
          cases j1
          obtain ⟨e1, e2, e3⟩ := lsub_some hc2
          have e2' : l.length = n * 3 := e2
          have e3' : 0 + n * 3 ≤ cc.length := e3
          have hall : All2 (VC ρ φ) l ((arr.toList.drop base).take (n * 3)) := by
            refine all2_at ?_ fun o x ho => ?_
            · have e4 : ((arr.toList.drop base).take (n * 3)).length = min (n * 3) (arr.size - base) := by simp
              have := j3.1
              rw [e4, e2']
              omega
            · have hlt := (List.getElem?_eq_some_iff.1 ho).1
              rw [e2'] at hlt
              have ho' : cc[o]? = some x := by
                rw [e1, List.drop_zero] at ho
                rw [List.getElem?_take_of_lt (show o < Nat.mul n 3 from hlt)] at ho
                exact ho
              obtain ⟨v, q1, q2⟩ := j3.2 o x ho'
              exact ⟨v, by rw [List.getElem?_take_of_lt hlt, List.getElem?_drop, Array.getElem?_toList]; exact q1, q2⟩
          obtain ⟨xs, hvs, hbd, hlen⟩ := okRows_ok hp.1 hp.2 hok hall
          have hn : xs.length = n := by
            have h5 := hall.length
            rw [e2'] at h5
            omega
          have hz' : ∀ c y, (if c = b then some (Obj.cells arr T (0, 0)) else φ.z c) = some y → w.heap[c]? = some y := fun c y hc => by
            split at hc
            · rename_i e; subst e; cases hc; exact j2
            · exact (hr.frz.at_ c y hc).1
          have hF : ∀ f ∈ factsI n, f.holds QR (vb (fun _ => { d := d3 xs }) gIf fun c => if c = b then some (Obj.cells arr T (0, 0)) else φ.z c) := by
            refine facts_cons (show ((n : Nat) : Int) ≤ (((d3 xs).length : Nat) : Int) ∧ (((d3 xs).length : Nat) : Int) ≤ ((n : Nat) : Int) from ?_) ?_
            · rw [show (d3 xs).length = xs.length from List.length_map .., hn]; exact ⟨Int.le_refl _, Int.le_refl _⟩
            · rw [← hn]
              exact fRow3_ok (vb_std _ _ _) rfl hbd _ (Nat.le_refl _)
          refine (law_run (eval_ok tblPI_ok mixedS (nat_lit 100)) (envR_ok hF) (runPI_at n n1 n7) (us := [.agg #[.slice (some ⟨b, base, none⟩) n cap]]) (.cons ⟨[_], rfl, .cons ?_ .nil⟩ .nil) w hz').mono ?_
          · refine ⟨some ⟨b, base, none⟩, cap, ?_, ?_, .inr ⟨b, base, arr, T, (0, 0), rfl, if_pos rfl, fun i row hrow => ?_⟩⟩
            · show _ = Value.slice _ (d3 xs).length _
              rw [show (d3 xs).length = xs.length from List.length_map .., hn]
            · show (d3 xs).length ≤ cap
              rw [show (d3 xs).length = xs.length from List.length_map .., hn]; exact hcap
            · have hi : i < n := by
                have := (List.getElem?_eq_some_iff.1 (show (d3 xs)[i]? = some row from hrow)).1
                rw [show (d3 xs).length = xs.length from List.length_map .., hn] at this
                exact this
              have hR := rv3_row (fun c => if c = b then some (Obj.cells arr T (0, 0)) else φ.z c) (show (d3 xs)[i]? = some row from hrow)
              rw [← hvs, List.drop_take, List.take_take, List.drop_drop, Nat.min_eq_left (by omega)] at hR
              exact hR
          · rintro e w' ⟨rfl, bl⟩
            exact ⟨_, φ, rfl, rfl, hr.keepS bl⟩
  · cases hv'
end Go.Proofs.YtjnfgapfhpihmaaGreat
