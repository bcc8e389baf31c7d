/-
  checkpoint.Latest, as the evaluator takes it: at a log of one entry that is no checkpoint.
-/
import Derived.Test.YtpecbnkhppglkaaGreatKD0
import Derived.Test.YtpecbnkhppglkaaGreatSymA
import Derived.Test.YtpecbnkhppglkaaGreatNatOf
import Derived.Test.YtpecbnkhppglkaaGreatLtst
import Derived.KernelRfl
namespace Go.Proofs.YtpecbnkhppglkaaGreat
open Go.RowKit
set_option maxRecDepth 100000
set_option linter.unusedVariables false
noncomputable def tblJ : Tab := tabOf [(⟨.x0, .x7, .x8⟩, c120), (⟨.x0, .xe, .x4⟩, c228), (⟨.x0, .xe, .x5⟩, c229), (⟨.x1, .x3, .x1⟩, c305), (⟨.x1, .x3, .xc⟩, c316), (⟨.x1, .x3, .xd⟩, c317), (⟨.x1, .x8, .x5⟩, c389), (⟨.x1, .x8, .x6⟩, c390), (⟨.x1, .x8, .xa⟩, c394)]
theorem tblJ_ok {E : Env} : TabOk Tryz.prog E tblJ := (tab_cons (tab_cons (tab_cons (tab_cons (tab_cons (tab_cons (tab_cons (tab_cons (tab_cons tab_nil e394) e390) e389) e317) e316) e305) e229) e228) e120)
theorem mixed : Tryz.prog.follows .mixedOrders = true := by kernel_rfl
def shE : Sh := (.i .i64 (.i .i64 (.i .i64 (.i .i64 (.i .i64 (.i .i64 (.i .i64 (.i .i64 (.b (.s (.b (.s (.s .nil)))))))))))))
def rowE : List DV := [.i 1, .i 1, .i 1, .i 0, .i 0, .i 0, .i 2, .i 3, .b false, .s ⟨#[]⟩, .b false, .s ⟨#[]⟩, .s ⟨#[]⟩]
def FJ : List Fact := [.rng (.f1 (nat_lit 5) (.v (nat_lit 9))) (Int.ofNat (nat_lit 1)) (Int.ofNat (nat_lit 1)), .rng (.f2 (nat_lit 100) (.v (nat_lit 9)) (.num (Int.ofNat (nat_lit 0)))) (Int.ofNat (nat_lit 1)) (Int.ofNat (nat_lit 1)), .rng (.f2 (nat_lit 101) (.v (nat_lit 9)) (.num (Int.ofNat (nat_lit 0)))) (Int.ofNat (nat_lit 1)) (Int.ofNat (nat_lit 1)), .rng (.f2 (nat_lit 102) (.v (nat_lit 9)) (.num (Int.ofNat (nat_lit 0)))) (Int.ofNat (nat_lit 1)) (Int.ofNat (nat_lit 1)), .rng (.f2 (nat_lit 103) (.v (nat_lit 9)) (.num (Int.ofNat (nat_lit 0)))) (Int.ofNat (nat_lit 0)) (Int.ofNat (nat_lit 0)), .rng (.f2 (nat_lit 104) (.v (nat_lit 9)) (.num (Int.ofNat (nat_lit 0)))) (Int.ofNat (nat_lit 0)) (Int.ofNat (nat_lit 0)), .rng (.f2 (nat_lit 105) (.v (nat_lit 9)) (.num (Int.ofNat (nat_lit 0)))) (Int.ofNat (nat_lit 0)) (Int.ofNat (nat_lit 0)), .rng (.f2 (nat_lit 106) (.v (nat_lit 9)) (.num (Int.ofNat (nat_lit 0)))) (Int.ofNat (nat_lit 2)) (Int.ofNat (nat_lit 2)), .rng (.f2 (nat_lit 107) (.v (nat_lit 9)) (.num (Int.ofNat (nat_lit 0)))) (Int.ofNat (nat_lit 3)) (Int.ofNat (nat_lit 3)), .bv (.f2 (nat_lit 108) (.v (nat_lit 9)) (.num (Int.ofNat (nat_lit 0)))) false, .rng (.f1 (nat_lit 6) (.f2 (nat_lit 109) (.v (nat_lit 9)) (.num (Int.ofNat (nat_lit 0))))) (Int.ofNat (nat_lit 0)) (Int.ofNat (nat_lit 0)), .seq (.f2 (nat_lit 109) (.v (nat_lit 9)) (.num (Int.ofNat (nat_lit 0)))) (.lit []) true, .seq (.lit []) (.f2 (nat_lit 109) (.v (nat_lit 9)) (.num (Int.ofNat (nat_lit 0)))) true, .bv (.f2 (nat_lit 110) (.v (nat_lit 9)) (.num (Int.ofNat (nat_lit 0)))) false, .rng (.f1 (nat_lit 6) (.f2 (nat_lit 111) (.v (nat_lit 9)) (.num (Int.ofNat (nat_lit 0))))) (Int.ofNat (nat_lit 0)) (Int.ofNat (nat_lit 0)), .seq (.f2 (nat_lit 111) (.v (nat_lit 9)) (.num (Int.ofNat (nat_lit 0)))) (.lit []) true, .seq (.lit []) (.f2 (nat_lit 111) (.v (nat_lit 9)) (.num (Int.ofNat (nat_lit 0)))) true, .rng (.f1 (nat_lit 6) (.f2 (nat_lit 112) (.v (nat_lit 9)) (.num (Int.ofNat (nat_lit 0))))) (Int.ofNat (nat_lit 0)) (Int.ofNat (nat_lit 0)), .seq (.f2 (nat_lit 112) (.v (nat_lit 9)) (.num (Int.ofNat (nat_lit 0)))) (.lit []) true, .seq (.lit []) (.f2 (nat_lit 112) (.v (nat_lit 9)) (.num (Int.ofNat (nat_lit 0)))) true]
theorem jv_run : isTrue (callBy tblJ (aev Tryz.prog (envA FJ) tblJ (nat_lit 500)) ⟨.x0, .x7, .x8⟩ [.a [.i .i64 (Int.ofNat (nat_lit 1)), .ds shE (.v (nat_lit 9)), .i .i64 (Int.ofNat (nat_lit 1))]] hp0) = true := by kernel_rfl
def rJ (z : Nat → Option Obj) : Vn := vnA (fun n => match n with | 9 => { d := [rowE] } | _ => {}) (fun _ _ _ => {}) (fun _ => .bool false) z
theorem envJ (z : Nat → Option Obj) : EnvOk (envA FJ) (rJ z) := by
  refine envA_ok (vnA_std _ _ _ _) ?_
  unfold FJ
  refine List.forall_mem_cons.2 ⟨⟨Int.le_refl _, Int.le_refl _⟩, ?_⟩
  refine List.forall_mem_cons.2 ⟨⟨Int.le_refl _, Int.le_refl _⟩, ?_⟩
  refine List.forall_mem_cons.2 ⟨⟨Int.le_refl _, Int.le_refl _⟩, ?_⟩
  refine List.forall_mem_cons.2 ⟨⟨Int.le_refl _, Int.le_refl _⟩, ?_⟩
  refine List.forall_mem_cons.2 ⟨⟨Int.le_refl _, Int.le_refl _⟩, ?_⟩
  refine List.forall_mem_cons.2 ⟨⟨Int.le_refl _, Int.le_refl _⟩, ?_⟩
  refine List.forall_mem_cons.2 ⟨⟨Int.le_refl _, Int.le_refl _⟩, ?_⟩
  refine List.forall_mem_cons.2 ⟨⟨Int.le_refl _, Int.le_refl _⟩, ?_⟩
  refine List.forall_mem_cons.2 ⟨⟨Int.le_refl _, Int.le_refl _⟩, ?_⟩
  refine List.forall_mem_cons.2 ⟨by show (_ : Bool) = _; rfl, ?_⟩
  refine List.forall_mem_cons.2 ⟨⟨Int.le_refl _, Int.le_refl _⟩, ?_⟩
  refine List.forall_mem_cons.2 ⟨by show ((⟨#[]⟩ : ByteArray).toList == (⟨#[]⟩ : ByteArray).toList) = true; exact beq_self_eq_true _, ?_⟩
  refine List.forall_mem_cons.2 ⟨by show ((⟨#[]⟩ : ByteArray).toList == (⟨#[]⟩ : ByteArray).toList) = true; exact beq_self_eq_true _, ?_⟩
  refine List.forall_mem_cons.2 ⟨by show (_ : Bool) = _; rfl, ?_⟩
  refine List.forall_mem_cons.2 ⟨⟨Int.le_refl _, Int.le_refl _⟩, ?_⟩
  refine List.forall_mem_cons.2 ⟨by show ((⟨#[]⟩ : ByteArray).toList == (⟨#[]⟩ : ByteArray).toList) = true; exact beq_self_eq_true _, ?_⟩
  refine List.forall_mem_cons.2 ⟨by show ((⟨#[]⟩ : ByteArray).toList == (⟨#[]⟩ : ByteArray).toList) = true; exact beq_self_eq_true _, ?_⟩
  refine List.forall_mem_cons.2 ⟨⟨Int.le_refl _, Int.le_refl _⟩, ?_⟩
  refine List.forall_mem_cons.2 ⟨by show ((⟨#[]⟩ : ByteArray).toList == (⟨#[]⟩ : ByteArray).toList) = true; exact beq_self_eq_true _, ?_⟩
  refine List.forall_mem_cons.2 ⟨by show ((⟨#[]⟩ : ByteArray).toList == (⟨#[]⟩ : ByteArray).toList) = true; exact beq_self_eq_true _, ?_⟩
  exact List.forall_mem_nil _
/-- the entry's cells are a row of the block -/
theorem ent_row {W : World} {b off : Nat} (hc : ∀ (j : Nat) v, entV[j]? = some v → W.cell? ⟨b, off + j, none⟩ = some v) : ∃ arr T fz, W.heap[b]? = some (.cells arr T fz) ∧ (arr.toList.drop off).take 13 = entV := by
  have h0 := hc 0 _ rfl
  unfold World.cell? at h0
  split at h0
  · rename_i arr T fz hb
    refine ⟨arr, T, fz, hb, ?_⟩
    have hj : ∀ (j : Nat) v, entV[j]? = some v → arr[off + j]? = some v := fun j v hv => by
      have := hc j v hv
      rw [cell_of_row W b _ arr T fz hb] at this
      exact this
    have hlen : off + 12 < arr.size := (Array.getElem?_eq_some_iff.1 (hj 12 _ rfl)).1
    refine List.ext_getElem? fun i => ?_
    by_cases hi : i < 13
    · rw [List.getElem?_take_of_lt hi, List.getElem?_drop, Array.getElem?_toList]
      have hlt : i < entV.length := hi
      rw [List.getElem?_eq_getElem hlt]
      exact hj i _ (List.getElem?_eq_getElem hlt)
    · rw [List.getElem?_take_eq_none (by omega), List.getElem?_eq_none (by show 13 ≤ i; omega)]
  · cases h0
theorem valid_one {W : World} {b off cap : Nat} (hc : ∀ (j : Nat) v, entV[j]? = some v → W.cell? ⟨b, off + j, none⟩ = some v) : Calls Tryz.prog 120 #[.agg #[.int .i64 1, .slice (some ⟨b, off, none⟩) 1 cap, .int .i64 1]] W fun e W' => e = .returned (.bool true) ∧ Below W.heap.size W W' := by
  obtain ⟨arr, T, fz, hb, hrow⟩ := ent_row hc
  let z : Nat → Option Obj := fun k => if k = b then W.heap[b]? else none
  refine law_run (ρ := rJ z) (eval_ok tblJ_ok mixed _) (envJ z) jv_run (us := [.agg #[.int .i64 1, .slice (some ⟨b, off, none⟩) 1 cap, .int .i64 1]]) (.cons ⟨[.int .i64 1, .slice (some ⟨b, off, none⟩) 1 cap, .int .i64 1], rfl, .cons rfl (.cons ?_ (.cons rfl .nil))⟩ .nil) W (fun k x hk => ?_)
  · refine ⟨_, cap, rfl, .inr ⟨b, off, arr, T, fz, rfl, ?_, fun i row hi => ?_⟩⟩
    · show (if b = b then W.heap[b]? else none) = _
      rw [if_pos rfl]; exact hb
    · cases i with
      | succ i => cases hi
      | zero =>
        cases hi
        rw [show off + 0 * shE.len = off from by simp, show shE.len = 13 from rfl, hrow]
        exact ⟨_, _, _, rfl, rfl, _, _, _, rfl, rfl, _, _, _, rfl, rfl, _, _, _, rfl, rfl, _, _, _, rfl, rfl, _, _, _, rfl, rfl, _, _, _, rfl, rfl, _, _, _, rfl, rfl, _, _, _, rfl, rfl, _, _, _, rfl, rfl, _, _, _, rfl, rfl, _, _, _, rfl, rfl, _, _, _, rfl, rfl, rfl, rfl⟩
  · have hk' : (if k = b then W.heap[b]? else none) = some x := hk
    split at hk'
    · rename_i h; rw [h]; exact hk'
    · cases hk'
/-- checkpoint.Latest, at such a log alone -/
def entC : List AC := [.i .i64 (Int.ofNat (nat_lit 1)), .i .i64 (Int.ofNat (nat_lit 1)), .i .i64 (Int.ofNat (nat_lit 1)), .i .i64 (Int.ofNat (nat_lit 0)), .i .i64 (Int.ofNat (nat_lit 0)), .i .i64 (Int.ofNat (nat_lit 0)), .i .i64 (Int.ofNat (nat_lit 2)), .i .i64 (Int.ofNat (nat_lit 3)), .b false, .s [], .b false, .s [], .s []]
noncomputable def latG (id : Bid) (off : Nat) (h : Hp) : RO := ro (h.lds id off 13) fun l => br (decide (l = entC)) (.ok (.t [.a [.i .i64 0, .i .i64 0, .sn, .sn, .sn], .c (.i .i64 0), .c (.b false)]) h)
noncomputable def natLatest : List AV → Hp → RO
  | [.a [.i .i64 (.ofNat 1), .sl id off 1 _, .i .i64 (.ofNat 1)]], h => latG id off h
  | _, _ => .no
theorem lits_eq {l : List AC} {us xs : List Value} {ρ : Vn} {φ : Emb} (e : vals l = some us) (hx : All2 (VC ρ φ) l xs) : xs = us := vals_eq e hx
theorem natLatest_ok {E : Env} : EntOk Tryz.prog E ⟨.x1, .x0, .x5⟩ (.natm natLatest) := by
  refine ⟨fun args w => enter_run Tryz.func261 (by kernel_rfl) rfl args w, ?_⟩
  intro vs v h h' hg ρ φ w us he hr hu
  unfold natLatest at hg
  split at hg
  · rename_i id off cp
    obtain ⟨l, h1, h2⟩ := ro_ok (show ro (h.lds id off 13) _ = RO.ok v h' from hg)
    obtain ⟨h3, h4⟩ := br_ok h2
    cases h4
    have hl := of_decide_eq_true h3
    obtain ⟨b, base, tot, cs, k1, k2, k3, k4⟩ := hr.lds h1
    rw [hl] at k3
    have hcs : cs = entV := lits_eq (by rfl) k3
    subst hcs
    cases hu with
    | cons a1 t1 =>
      cases t1
      obtain ⟨xs, rfl, hx⟩ := a1
      cases hx with
      | cons x1 hx => cases hx with
        | cons x2 hx => cases hx with
          | cons x3 hx =>
            cases hx
            obtain ⟨b', base', tot', e1, e2⟩ := x2
            rw [k1] at e1
            cases e1
            rw [show _ = Value.int .i64 1 from x1, show _ = Value.int .i64 1 from x3, e2]
            refine nat_of (u := .tuple #[.agg #[.int .i64 0, .int .i64 0, .slice none 0 0, .slice none 0 0, .slice none 0 0], .int .i64 0, .bool false]) hr ⟨[.agg #[.int .i64 0, .int .i64 0, .slice none 0 0, .slice none 0 0, .slice none 0 0], .int .i64 0, .bool false], rfl, .cons ⟨[.int .i64 0, .int .i64 0, .slice none 0 0, .slice none 0 0, .slice none 0 0], rfl, .cons rfl (.cons rfl (.cons rfl (.cons rfl (.cons rfl .nil))))⟩ (.cons rfl (.cons rfl .nil))⟩ ?_
            exact callsIn_wide.1 (latest_in Fence.wide 6 (fun _ => trivial) rfl (by decide) b (base + off) cp w (fun j v hv => k4 j v hv) fun W hW => callsIn_wide.2 (valid_one hW))
  · cases hg
end Go.Proofs.YtpecbnkhppglkaaGreat
