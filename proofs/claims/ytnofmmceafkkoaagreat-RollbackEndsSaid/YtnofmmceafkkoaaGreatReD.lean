/-
  Contracts over rows of numbers: slices.BinarySearch, Clone and Delete at []int.
-/
import Derived.Test.YtnofmmceafkkoaaGreatReJ
import Derived.Test.YtnofmmceafkkoaaGreatShelf
set_option linter.unusedVariables false
set_option linter.unusedSimpArgs false
namespace Go.Proofs.YtnofmmceafkkoaaGreat
open Go.RowKit
theorem ns_slice {z : Nat → Option Obj} {ns : List Int} {v : Value} (h : SlD z shI (nsD ns) v) : ∃ p cap, v = .slice p ns.length cap ∧ ns.length ≤ cap ∧ (ns = [] ∨ ∃ b off arr T fz, p = some ⟨b, off, none⟩ ∧ z b = some (.cells arr T fz) ∧ ∀ j (hj : j < ns.length), arr[off + j]? = some (.int .i64 ns[j])) := by
  obtain ⟨p, cap, h1, h2, h3⟩ := h
  have hl : (nsD ns).length = ns.length := List.length_map ..
  refine ⟨p, cap, by rw [h1, hl], by rw [← hl]; exact h2, ?_⟩
  rcases h3 with h3 | ⟨b, off, arr, T, fz, h4, h5, h6⟩
  · exact .inl (List.map_eq_nil_iff.1 h3)
  · refine .inr ⟨b, off, arr, T, fz, h4, h5, fun j hj => ?_⟩
    have hrow : (nsD ns)[j]? = some [DV.i ns[j]] := by unfold nsD; rw [List.getElem?_map, List.getElem?_eq_getElem hj]; rfl
    obtain ⟨n, l', vs', e1, e2, e3⟩ := h6 j _ hrow
    cases e1
    have hs : shI.len = 1 := rfl
    rw [hs, Nat.mul_one] at e2
    have h7 : ((arr.toList.drop (off + j)).take 1)[0]? = some (Value.int .i64 ns[j]) := by rw [e2]; rfl
    rw [List.getElem?_take_of_lt (by decide), List.getElem?_drop, Nat.add_zero] at h7
    rw [← Array.getElem?_toList]; exact h7
theorem cell_of_frozen {z : Nat → Option Obj} {ρ : Vn} {φ : Emb} {h : Hp} {w : World} (hr : Rel ρ φ h w) {b off : Nat} {arr : Array Value} {T : TypeId} {fz : Nat × Nat} (hz : φ.z b = some (.cells arr T fz)) (o : Nat) {v : Value} (hv : arr[o]? = some v) : w.cell? ⟨b, o, none⟩ = some v := by
  have := (hr.frz.at_ b _ hz).1
  rw [cell_of_row w _ o _ _ _ this]; exact hv
theorem countP_at : ∀ {ns : List Int}, ns.Pairwise (· < ·) → ∀ {k : Nat} {x : Int}, ns[k]? = some x → ns.countP (· < x) = k
  | [], _, k, x, h => by simp at h
  | n :: ns, hp, 0, x, h => by
    simp at h
    subst h
    rw [List.pairwise_cons] at hp
    rw [List.countP_cons_of_neg (by simp), List.countP_eq_zero]
    intro m hm
    have := hp.1 m hm
    simp; omega
  | n :: ns, hp, k + 1, x, h => by
    rw [List.pairwise_cons] at hp
    have h' : ns[k]? = some x := by simpa using h
    have := hp.1 x (List.mem_of_getElem? h')
    rw [List.countP_cons_of_pos (by simpa using this), countP_at hp.2 h']
def fdA (F : List Fc) (q : Nm) : Bool := match F with
  | [] => false
  | .pr k [q', _] :: l => bif Nat.beq k 3 && decide (q' = q) then true else fdA l q
  | _ :: l => fdA l q
def fdAt (F : List Fc) (q x : Nm) : Option Nm := match F with
  | [] => none
  | .pr k [q', x', a] :: l => bif Nat.beq k 4 && (decide (q' = q) && decide (x' = x)) then some a else fdAt l q x
  | _ :: l => fdAt l q x
theorem fdA_ok {ρ : Vn} : ∀ {F : List Fc} {q : Nm}, (∀ f ∈ F, f.holds QR ρ) → fdA F q = true → ∃ m, Asc (ρ.d q) m
  | [], q, h, e => by cases e
  | f :: l, q, h, e => by
    have ih := fun e' => fdA_ok (F := l) (q := q) (fun f hf => h f (List.mem_cons_of_mem _ hf)) e'
    unfold fdA at e
    split at e
    · rename_i heq; cases heq
    · rename_i k q' m' l' heq
      cases heq
      cases hd : (Nat.beq k 3 && decide (q' = q)) with
      | true =>
        rw [Bool.and_eq_true, decide_eq_true_eq] at hd
        obtain ⟨h1, rfl⟩ := hd
        cases Nat.eq_of_beq_eq_true h1
        exact ⟨_, h _ List.mem_cons_self⟩
      | false => rw [hd] at e; exact ih e
    · rename_i heq
      cases heq
      exact ih e
theorem fdAt_ok {ρ : Vn} : ∀ {F : List Fc} {q x a : Nm}, (∀ f ∈ F, f.holds QR ρ) → fdAt F q x = some a → IsAt (ρ.d q) (ρ.i x) (ρ.i a)
  | [], q, x, a, h, e => by cases e
  | f :: l, q, x, a, h, e => by
    have ih := fun e' => fdAt_ok (F := l) (q := q) (x := x) (a := a) (fun f hf => h f (List.mem_cons_of_mem _ hf)) e'
    unfold fdAt at e
    split at e
    · rename_i heq; cases heq
    · rename_i k q' x' a' l' heq
      cases heq
      cases hd : (Nat.beq k 4 && (decide (q' = q) && decide (x' = x))) with
      | true =>
        rw [hd] at e
        cases e
        rw [Bool.and_eq_true, Bool.and_eq_true, decide_eq_true_eq, decide_eq_true_eq] at hd
        obtain ⟨h1, rfl, rfl⟩ := hd
        cases Nat.eq_of_beq_eq_true h1
        exact h _ List.mem_cons_self
      | false => rw [hd] at e; exact ih e
    · rename_i heq
      cases heq
      exact ih e
def natBS (F : List Fc) : List AV → Option AV
  | [.c (.ds e q), .c x] => bif decide (e = shI) then (match nmI x with
    | some t => bif isI64 t.1 then (bif decide (t.2 = .num 0) && fdA F q then some (.t [.c (.i .i64 0), .c (.b false)]) else match fdAt F q t.2 with
      | some a => some (.t [.c (conF F .i64 a), .c (.b true)])
      | none => none) else none
    | none => none) else none
  | _ => none
theorem bs_walk {ρ : Vn} {φ : Emb} {h : Hp} {w : World} (hr : Rel ρ φ h w) {ns : List Int} (hp : ns.Pairwise (· < ·)) (hl : ns.length ≤ 4000) {v : Value} (hv : SlD φ.z shI (nsD ns) v) (x : Int) : Calls Tryz.prog 179 #[v, .int .i64 x] w fun e w' => e = .returned (.tuple #[.int .i64 (ns.countP (· < x) : Nat), .bool (ns.contains x)]) ∧ Below w.heap.size w w' := by
  obtain ⟨p, cap, rfl, hc, h0⟩ := ns_slice hv
  rcases h0 with rfl | ⟨b, off, arr, T, fz, rfl, hz, hcell⟩
  · refine (Tryz.slices_BinarySearch_int_empty p cap x w).mono ?_
    rintro e w' ⟨rfl, rfl⟩
    exact ⟨rfl, Below.refl _ _⟩
  · refine (Tryz.slices_BinarySearch_int b off ns.length cap ns x w (Nat.le_refl _) (by omega) (fun j hj => ?_) ?_).mono ?_
    · have := cell_of_frozen (z := φ.z) (off := off) hr hz (off + j) (hcell j hj)
      rw [this]
      simp [List.getD, List.getElem?_eq_getElem hj]
    · rw [List.take_length]
      exact hp.imp fun h => Int.le_of_lt h
    · rintro e w' ⟨rfl, q, rfl⟩
      rw [List.take_length]
      exact ⟨rfl, ⟨rfl, rfl, rfl, Nat.le_refl _, fun _ _ => rfl⟩⟩
theorem natBS_ok (F : List Fc) : NatOk Tryz.prog (envR F) 179 (natBS F) := by
  intro vs v hv ρ φ h w us he hr hu
  have hp : StdF ρ ∧ ∀ f ∈ F, f.holds QR ρ := envR_prop he
  unfold natBS at hv
  split at hv
  · rename_i e q x
    cases hc : decide (e = shI) with
    | false => rw [hc] at hv; cases hv
    | true =>
      rw [hc] at hv
      cases of_decide_eq_true hc
      simp only [cond_true] at hv
      split at hv
      · rename_i t ht
        cases hc : isI64 t.1 with
        | false => rw [hc] at hv; cases hv
        | true =>
          rw [hc] at hv
          simp only [cond_true] at hv
          have hk := isI64_eq hc
          cases hu with
          | @cons _ v1 _ _ x1 t1 =>
            cases t1 with
            | cons x2 t2 =>
              cases t2
              have hx2 := nmI_ok hp.1.toStdA ht x2
              rw [hk] at hx2
              cases hd : (decide (t.2 = .num 0) && fdA F q) with
              | true =>
                rw [hd] at hv
                cases hv
                rw [Bool.and_eq_true, decide_eq_true_eq] at hd
                obtain ⟨m, hl, hm, ns, hns, hpw, hb⟩ := fdA_ok hp.2 hd.2
                rw [hd.1, hp.1.num] at hx2
                rw [hx2]
                have x1' : SlD φ.z shI (nsD ns) v1 := by rw [show nsD ns = ρ.d q from hns.symm]; exact x1
                refine (bs_walk hr hpw (by rw [hns, List.length_map] at hl; exact hl) x1' 0).mono ?_
                rintro en w' ⟨rfl, b⟩
                have c1 : ns.countP (· < (0 : Int)) = 0 := by
                  rw [List.countP_eq_zero]
                  intro n hn
                  have := hb n hn
                  simp; omega
                have c2 : ns.contains (0 : Int) = false := by
                  cases hc : ns.contains (0 : Int) with
                  | false => rfl
                  | true =>
                    have := hb 0 (by simpa using hc)
                    omega
                rw [c1, c2]
                exact ⟨_, φ, rfl, ⟨_, rfl, .cons (show VT ρ φ (.c (.i .i64 0)) _ from rfl) (.cons (show VT ρ φ (.c (.b false)) _ from rfl) .nil)⟩, hr.keepS b⟩
              | false =>
                rw [hd] at hv
                simp only [cond_false] at hv
                split at hv
                · rename_i a ha
                  cases hv
                  obtain ⟨h0, h1, m, hl, hm, ns, hns, hpw, hb⟩ := fdAt_ok hp.2 ha
                  rw [hx2]
                  have x1' : SlD φ.z shI (nsD ns) v1 := by rw [show nsD ns = ρ.d q from hns.symm]; exact x1
                  refine (bs_walk hr hpw (by rw [hns, List.length_map] at hl; exact hl) x1' (ρ.i t.2)).mono ?_
                  rintro en w' ⟨rfl, b⟩
                  have h2 : ns[(ρ.i a).toNat]? = some (ρ.i t.2) := by
                    rw [hns, List.getElem?_map] at h1
                    cases hq : ns[(ρ.i a).toNat]? with
                    | none => rw [hq] at h1; cases h1
                    | some y => rw [hq] at h1; cases h1; rfl
                  rw [countP_at hpw h2, show ns.contains (ρ.i t.2) = true from by simpa using List.mem_of_getElem? h2]
                  have e3 : (((ρ.i a).toNat : Nat) : Int) = ρ.i a := Int.toNat_of_nonneg h0
                  rw [e3]
                  exact ⟨_, φ, rfl, ⟨_, rfl, .cons (show VT ρ φ (.c (conF F .i64 a)) _ from conF_ok hp.1 hp.2 _ _) (.cons (show VT ρ φ (.c (.b true)) _ from rfl) .nil)⟩, hr.keepS b⟩
                · cases hv
      · cases hv
  · cases hv
end Go.Proofs.YtnofmmceafkkoaaGreat
