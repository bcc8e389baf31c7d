/-
  RcD, RcE in one.
-/
import Derived.Test.YtnofmmceafkkoaaGreatRcJ
import Derived.Test.YtnofmmceafkkoaaGreatShelf
set_option linter.unusedVariables false
set_option linter.unusedSimpArgs false
namespace Go.Proofs.YtnofmmceafkkoaaGreat
open Go.RowKit
theorem ns_slice {z : Nat → Option Obj} {ns : List Int} {v : Value} (h : SlD z shI (nsD ns) v) : ∃ p cap, v = .slice p ns.length cap ∧ ns.length ≤ cap ∧ (ns = [] ∨ ∃ b off arr T fz, p = some ⟨b, off, none⟩ ∧ z b = some (.cells arr T fz) ∧ ∀ j (hj : j < ns.length), arr[off + j]? = some (.int .i64 ns[j])) := by
  obtain ⟨p, cap, h1, h2, h3⟩ := h
  have hl : (nsD ns).length = ns.length := List.length_map ..
  refine ⟨p, cap, by rw [h1, hl], by rw [← hl]; exact h2, ?_⟩
  rcases h3 with h3 | ⟨b, off, arr, T, fz, h4, h5, h6⟩
  · exact .inl (List.map_eq_nil_iff.1 h3)
  · refine .inr ⟨b, off, arr, T, fz, h4, h5, fun j hj => ?_⟩
    have hrow : (nsD ns)[j]? = some [DV.i ns[j]] := by unfold nsD; rw [List.getElem?_map, List.getElem?_eq_getElem hj]; rfl
    obtain ⟨n, l', vs', e1, e2, e3⟩ := h6 j _ hrow
    cases e1
    have hs : shI.len = 1 := rfl
    rw [hs, Nat.mul_one] at e2
    have h7 : ((arr.toList.drop (off + j)).take 1)[0]? = some (Value.int .i64 ns[j]) := by rw [e2]; rfl
    rw [List.getElem?_take_of_lt (by decide), List.getElem?_drop, Nat.add_zero] at h7
    rw [← Array.getElem?_toList]; exact h7
theorem cell_of_frozen {z : Nat → Option Obj} {ρ : Vn} {φ : Emb} {h : Hp} {w : World} (hr : Rel ρ φ h w) {b off : Nat} {arr : Array Value} {T : TypeId} {fz : Nat × Nat} (hz : φ.z b = some (.cells arr T fz)) (o : Nat) {v : Value} (hv : arr[o]? = some v) : w.cell? ⟨b, o, none⟩ = some v := by
  have := (hr.frz.at_ b _ hz).1
  rw [cell_of_row w _ o _ _ _ this]; exact hv
theorem countP_at : ∀ {ns : List Int}, ns.Pairwise (· < ·) → ∀ {k : Nat} {x : Int}, ns[k]? = some x → ns.countP (· < x) = k
  | [], _, k, x, h => by simp at h
  | n :: ns, hp, 0, x, h => by
    simp at h
    subst h
    rw [List.pairwise_cons] at hp
    rw [List.countP_cons_of_neg (by simp), List.countP_eq_zero]
    intro m hm
    have := hp.1 m hm
    simp; omega
  | n :: ns, hp, k + 1, x, h => by
    rw [List.pairwise_cons] at hp
    have h' : ns[k]? = some x := by simpa using h
    have := hp.1 x (List.mem_of_getElem? h')
    rw [List.countP_cons_of_pos (by simpa using this), countP_at hp.2 h']
def fdA (F : List Fc) (q : Nm) : Bool := match F with
  | [] => false
  | .pr k [q', _] :: l => bif Nat.beq k 3 && decide (q' = q) then true else fdA l q
  | _ :: l => fdA l q
def fdAt (F : List Fc) (q x : Nm) : Option Nm := match F with
  | [] => none
  | .pr k [q', x', a] :: l => bif Nat.beq k 4 && (decide (q' = q) && decide (x' = x)) then some a else fdAt l q x
  | _ :: l => fdAt l q x
theorem fdA_ok {ρ : Vn} : ∀ {F : List Fc} {q : Nm}, (∀ f ∈ F, f.holds QR ρ) → fdA F q = true → ∃ m, Asc (ρ.d q) m
  | [], q, h, e => by cases e
  | f :: l, q, h, e => by
    have ih := fun e' => fdA_ok (F := l) (q := q) (fun f hf => h f (List.mem_cons_of_mem _ hf)) e'
    unfold fdA at e
    split at e
    · rename_i heq; cases heq
    · rename_i k q' m' l' heq
      cases heq
      cases hd : (Nat.beq k 3 && decide (q' = q)) with
      | true =>
        rw [Bool.and_eq_true, decide_eq_true_eq] at hd
        obtain ⟨h1, rfl⟩ := hd
        cases Nat.eq_of_beq_eq_true h1
        exact ⟨_, h _ List.mem_cons_self⟩
      | false => rw [hd] at e; exact ih e
    · rename_i heq
      cases heq
      exact ih e
theorem fdAt_ok {ρ : Vn} : ∀ {F : List Fc} {q x a : Nm}, (∀ f ∈ F, f.holds QR ρ) → fdAt F q x = some a → IsAt (ρ.d q) (ρ.i x) (ρ.i a)
  | [], q, x, a, h, e => by cases e
  | f :: l, q, x, a, h, e => by
    have ih := fun e' => fdAt_ok (F := l) (q := q) (x := x) (a := a) (fun f hf => h f (List.mem_cons_of_mem _ hf)) e'
    unfold fdAt at e
    split at e
    · rename_i heq; cases heq
    · rename_i k q' x' a' l' heq
      cases heq
      cases hd : (Nat.beq k 4 && (decide (q' = q) && decide (x' = x))) with
      | true =>
        rw [hd] at e
        cases e
        rw [Bool.and_eq_true, Bool.and_eq_true, decide_eq_true_eq, decide_eq_true_eq] at hd
        obtain ⟨h1, rfl, rfl⟩ := hd
        cases Nat.eq_of_beq_eq_true h1
        exact h _ List.mem_cons_self
      | false => rw [hd] at e; exact ih e
    · rename_i heq
      cases heq
      exact ih e
def natBS (F : List Fc) : List AV → Option AV
  | [.c (.ds e q), .c x] => bif decide (e = shI) then (match nmI x with
    | some t => bif isI64 t.1 then (bif decide (t.2 = .num 0) && fdA F q then some (.t [.c (.i .i64 0), .c (.b false)]) else match fdAt F q t.2 with
      | some a => some (.t [.c (conF F .i64 a), .c (.b true)])
      | none => none) else none
    | none => none) else none
  | _ => none
theorem bs_walk {ρ : Vn} {φ : Emb} {h : Hp} {w : World} (hr : Rel ρ φ h w) {ns : List Int} (hp : ns.Pairwise (· < ·)) (hl : ns.length ≤ 4000) {v : Value} (hv : SlD φ.z shI (nsD ns) v) (x : Int) : Calls Tryz.prog 179 #[v, .int .i64 x] w fun e w' => e = .returned (.tuple #[.int .i64 (ns.countP (· < x) : Nat), .bool (ns.contains x)]) ∧ Below w.heap.size w w' := by
  obtain ⟨p, cap, rfl, hc, h0⟩ := ns_slice hv
  rcases h0 with rfl | ⟨b, off, arr, T, fz, rfl, hz, hcell⟩
  · refine (Tryz.slices_BinarySearch_int_empty p cap x w).mono ?_
    rintro e w' ⟨rfl, rfl⟩
    exact ⟨rfl, Below.refl _ _⟩
  · refine (Tryz.slices_BinarySearch_int b off ns.length cap ns x w (Nat.le_refl _) (by omega) (fun j hj => ?_) ?_).mono ?_
    · have := cell_of_frozen (z := φ.z) (off := off) hr hz (off + j) (hcell j hj)
      rw [this]
      simp [List.getD, List.getElem?_eq_getElem hj]
    · rw [List.take_length]
      exact hp.imp fun h => Int.le_of_lt h
    · rintro e w' ⟨rfl, q, rfl⟩
      rw [List.take_length]
      exact ⟨rfl, ⟨rfl, rfl, rfl, Nat.le_refl _, fun _ _ => rfl⟩⟩
theorem natBS_ok (F : List Fc) : NatOk Tryz.prog (envR F) 179 (natBS F) := by
  intro vs v hv ρ φ h w us he hr hu
  have hp : StdF ρ ∧ ∀ f ∈ F, f.holds QR ρ := envR_prop he
  unfold natBS at hv
  split at hv
  · rename_i e q x
    cases hc : decide (e = shI) with
    | false => rw [hc] at hv; cases hv
    | true =>
      rw [hc] at hv
      cases of_decide_eq_true hc
      simp only [cond_true] at hv
      split at hv
      · rename_i t ht
        cases hc : isI64 t.1 with
        | false => rw [hc] at hv; cases hv
        | true =>
          rw [hc] at hv
          simp only [cond_true] at hv
          have hk := isI64_eq hc
          cases hu with
          | @cons _ v1 _ _ x1 t1 =>
            cases t1 with
            | cons x2 t2 =>
              cases t2
              have hx2 := nmI_ok hp.1.toStdA ht x2
              rw [hk] at hx2
              cases hd : (decide (t.2 = .num 0) && fdA F q) with
              | true =>
                rw [hd] at hv
                cases hv
                rw [Bool.and_eq_true, decide_eq_true_eq] at hd
                obtain ⟨m, hl, hm, ns, hns, hpw, hb⟩ := fdA_ok hp.2 hd.2
                rw [hd.1, hp.1.num] at hx2
                rw [hx2]
                have x1' : SlD φ.z shI (nsD ns) v1 := by rw [show nsD ns = ρ.d q from hns.symm]; exact x1
                refine (bs_walk hr hpw (by rw [hns, List.length_map] at hl; exact hl) x1' 0).mono ?_
                rintro en w' ⟨rfl, b⟩
                have c1 : ns.countP (· < (0 : Int)) = 0 := by
                  rw [List.countP_eq_zero]
                  intro n hn
                  have := hb n hn
                  simp; omega
                have c2 : ns.contains (0 : Int) = false := by
                  cases hc : ns.contains (0 : Int) with
                  | false => rfl
                  | true =>
                    have := hb 0 (by simpa using hc)
                    omega
                rw [c1, c2]
                exact ⟨_, φ, rfl, ⟨_, rfl, .cons (show VT ρ φ (.c (.i .i64 0)) _ from rfl) (.cons (show VT ρ φ (.c (.b false)) _ from rfl) .nil)⟩, hr.keepS b⟩
              | false =>
                rw [hd] at hv
                simp only [cond_false] at hv
                split at hv
                · rename_i a ha
                  cases hv
                  obtain ⟨h0, h1, m, hl, hm, ns, hns, hpw, hb⟩ := fdAt_ok hp.2 ha
                  rw [hx2]
                  have x1' : SlD φ.z shI (nsD ns) v1 := by rw [show nsD ns = ρ.d q from hns.symm]; exact x1
                  refine (bs_walk hr hpw (by rw [hns, List.length_map] at hl; exact hl) x1' (ρ.i t.2)).mono ?_
                  rintro en w' ⟨rfl, b⟩
                  have h2 : ns[(ρ.i a).toNat]? = some (ρ.i t.2) := by
                    rw [hns, List.getElem?_map] at h1
                    cases hq : ns[(ρ.i a).toNat]? with
                    | none => rw [hq] at h1; cases h1
                    | some y => rw [hq] at h1; cases h1; rfl
                  rw [countP_at hpw h2, show ns.contains (ρ.i t.2) = true from by simpa using List.mem_of_getElem? h2]
                  have e3 : (((ρ.i a).toNat : Nat) : Int) = ρ.i a := Int.toNat_of_nonneg h0
                  rw [e3]
                  exact ⟨_, φ, rfl, ⟨_, rfl, .cons (show VT ρ φ (.c (conF F .i64 a)) _ from conF_ok hp.1 hp.2 _ _) (.cons (show VT ρ φ (.c (.b true)) _ from rfl) .nil)⟩, hr.keepS b⟩
                · cases hv
      · cases hv
  · cases hv
end Go.Proofs.YtnofmmceafkkoaaGreat
set_option linter.unusedVariables false
set_option linter.unusedSimpArgs false
namespace Go.Proofs.YtnofmmceafkkoaaGreat
open Go.RowKit Go.Sort
theorem rowD_int (z : Nat → Option Obj) (n : Int) : RowD z shI [DV.i n] [Value.int .i64 n] := ⟨n, [], [], rfl, rfl, rfl, rfl⟩
theorem nsD_get {ns : List Int} {i : Nat} {row : List DV} (h : (nsD ns)[i]? = some row) : ∃ m, ns[i]? = some m ∧ row = [DV.i m] := by
  unfold nsD at h
  rw [List.getElem?_map] at h
  cases hq : ns[i]? with
  | none => rw [hq] at h; cases h
  | some y => rw [hq] at h; cases h; exact ⟨y, rfl, rfl⟩
theorem take1 {l : List Value} {i : Nat} {v : Value} (h : l[i]? = some v) : (l.drop (i * shI.len)).take 1 = [v] := by
  rw [show shI.len = 1 from rfl, Nat.mul_one]
  obtain ⟨hlt, rfl⟩ := List.getElem?_eq_some_iff.1 h
  rw [List.drop_eq_getElem_cons hlt]; rfl
def pos1 (F : List Fc) (q : Nm) : Bool := match cmpF F .lss (.num 0) (lenN F q) with
  | some true => true
  | _ => false
noncomputable def natCl (F : List Fc) (call : CallF) (f : Bid) (vs : List AV) (h : Hp) : RO := match vs with
  | [.c (.ds e q)] => br ((decide (e = shI) && fdA F q) && pos1 F q) (new h (.row e q) fun id => .c (.sr id e q))
  | _ => call f vs h
theorem natCl_ok {F : List Fc} {call : CallF} (hC : CallOk Tryz.prog (envR F) call) : EntOk Tryz.prog (envR F) ⟨.x0, .x5, .x9⟩ (.natm (natCl F call ⟨.x0, .x5, .x9⟩)) := by
  refine ⟨fun args w => enter_run Tryz.func89 (by kernel_rfl) rfl args w, ?_⟩
  intro vs v h h' hv ρ φ w us he hr hu
  have hp : StdF ρ ∧ ∀ f ∈ F, f.holds QR ρ := envR_prop he
  have hv' : natCl F call ⟨.x0, .x5, .x9⟩ vs h = .ok v h' := hv
  unfold natCl at hv'
  split at hv'
  · rename_i e q
    obtain ⟨hb, hv2⟩ := br_ok hv'
    rw [Bool.and_eq_true, Bool.and_eq_true, decide_eq_true_eq] at hb
    obtain ⟨⟨rfl, hb2⟩, hb3⟩ := hb
    obtain ⟨n, hn, rfl, rfl⟩ := new_ok hv2
    obtain ⟨m, hl, hm, ns, hns, hpw, hbd⟩ := fdA_ok hp.2 hb2
    have hlen : ns.length ≤ 4000 := by rw [hns, List.length_map] at hl; exact hl
    have h1 : 1 ≤ ns.length := by
      unfold pos1 at hb3
      split at hb3
      · rename_i g
        have := cmpF_ok hp.1 hp.2 g
        rw [hp.1.num, lenN_ok hp.1 hp.2, hns, List.length_map] at this
        simp only [icmp, Option.some.injEq, decide_eq_true_eq] at this
        omega
      · cases hb3
    cases hu with
    | @cons _ v1 _ _ x1 t1 =>
      cases t1
      have x1' : SlD φ.z shI (nsD ns) v1 := by rw [show nsD ns = ρ.d q from hns.symm]; exact x1
      obtain ⟨p, cap, rfl, hc, h0⟩ := ns_slice x1'
      rcases h0 with rfl | ⟨b, off, arr, T, fz, rfl, hz, hcell⟩
      · exact absurd h1 (by decide)
      · refine (Tryz.slices_Clone_int b off ns.length cap ns w (Nat.le_refl _) (by omega) (fun j hj => ?_)).mono ?_
        · have := cell_of_frozen (z := φ.z) (off := off) hr hz (off + j) (hcell j hj)
          rw [this]
          simp [List.getD, List.getElem?_eq_getElem hj]
        · rintro en w' ⟨v', rfl, ho, hne, bl⟩
          rw [List.take_length] at ho
          obtain ⟨o1, o2⟩ := ho
          rcases o2 with ⟨_, o3⟩ | ⟨g, cp, cur, rfl, o4, o5, o6, o7, o8, o9⟩
          · exact absurd h1 (by rw [o3]; decide)
          · rw [Nat.mul_one] at o8 o9
            have hsz : w.heap.size ≤ w'.heap.size := bl.size
            have S := Rel.more (B := .row shI q) (b := g) (base := 0) (tot := cur.size) hr hn hsz o4 bl.block bl.os bl.tape bl.output (fun c h => (nomatch h)) (fun l h => (nomatch h)) (fun e y h => by
              cases h
              refine ⟨rfl, cur, _, rfl, o5, ?_, fun i row hrow => ?_⟩
              · rw [show ρ.d q = nsD ns from hns, show (nsD ns).length = ns.length from List.length_map .., show shI.len = 1 from rfl]; omega
              · rw [show ρ.d q = nsD ns from hns] at hrow
                obtain ⟨m', hm', rfl⟩ := nsD_get hrow
                have hi : i < ns.length := (List.getElem?_eq_some_iff.1 hm').1
                have hc : cur.toList[i]? = some (.int .i64 m') := by
                  have : (cur.toList.take ns.length)[i]? = some (.int .i64 m') := by rw [o9, List.getElem?_map, hm']; rfl
                  rwa [List.getElem?_take_of_lt hi] at this
                rw [show shI.len = 1 from rfl, show i * 1 = i * shI.len from rfl, take1 hc]
                exact rowD_int _ _)
            refine ⟨_, _, rfl, ⟨g, cur.size, cp, Emb.add_same _ _ _, ?_, ?_, ?_, ?_⟩, S⟩
            · rw [show ρ.d q = nsD ns from hns, show (nsD ns).length = ns.length from List.length_map ..]
            · rw [show ρ.d q = nsD ns from hns, show (nsD ns).length = ns.length from List.length_map ..]; exact o6
            · rw [show shI.len = 1 from rfl]; omega
            · unfold maxLen at o7; omega
  · exact (hC _ vs h v h' hv').2 ρ φ w us he hr hu
theorem row_freeze {ρ : Vn} {φ : Emb} {h : Hp} {w w' : World} (r : Rel ρ φ h w) {id : Bid} (hl : (h.get id).isSome) {b base tot : Nat} (hb : φ id = some (b, base, tot)) {x : Obj} (hx : w'.heap[b]? = some x) (hsz : w'.heap.size = w.heap.size)
    (hk : ∀ c, c ≠ b → w'.heap[c]? = w.heap[c]?) (ho : w'.os = w.os) (ht : w'.tape = w.tape) (hp : w'.output = w.output) : Stp ρ φ h w (φ.frz b x) (h.drop id) w' := by
  have hzb : ∀ y, φ.z b ≠ some y := fun y hy => (r.frz.at_ b y hy).2 id _ hl hb rfl
  have hle : φ.le (φ.frz b x) := ⟨fun _ _ h => h, fun c y hc => by
    show (if c = b then some x else φ.z c) = some y
    split
    · rename_i hcb; subst hcb; exact absurd hc (hzb y)
    · exact hc⟩
  have live : ∀ {j : Bid}, ((h.drop id).get j).isSome → j ≠ id ∧ (h.drop id).get j = h.get j := fun {j} hj => by
    by_cases e : j = id
    · subst e
      rw [show (h.drop j).get j = none from Hp.get_putB _ _ _] at hj
      cases hj
    · exact ⟨e, Hp.get_putB_ne e _ _⟩
  have away : ∀ {j : Bid} {y : Nat × Nat × Nat}, ((h.drop id).get j).isSome → φ j = some y → y.1 ≠ b := fun {j y} hj hy e => by
    obtain ⟨h1, h2⟩ := live hj
    exact h1 (r.inj j id y _ (by rw [← h2]; exact hj) hl hy hb e)
  refine ⟨hle, ⟨⟨fun j c hc => ?_, fun j l hc => ?_, fun j e y hc => ?_, fun i j y y' hi hj => ?_, fun j hj => ?_, fun j hj => ?_⟩, ⟨fun c y hc => hle.z c y (r.frz.zin c y hc), fun c y hc => ?_⟩⟩, by omega, fun c hc hn => hk c fun e => hn id _ hl hb e.symm, fun j y hj hy hlt => ?_, Nat.le_refl _, fun j hj => .inl hj, ho, ht, hp, fun c y hc => ?_⟩
  · have hj := live (j := j) (by rw [hc]; rfl)
    have := fun y => away (j := j) (y := y) (by rw [hc]; rfl)
    rw [hj.2] at hc
    obtain ⟨b', base', arr, T, h1, h2, h3⟩ := r.cells j c hc
    exact ⟨b', base', arr, T, h1, by rw [hk b' (this _ h1)]; exact h2, h3.le hle⟩
  · have hj := live (j := j) (by rw [hc]; rfl)
    have := fun y => away (j := j) (y := y) (by rw [hc]; rfl)
    rw [hj.2] at hc
    obtain ⟨b', es, cl, h1, h2, h3⟩ := r.maps j l hc
    exact ⟨b', es, cl, h1, by rw [hk b' (this _ h1)]; exact h2, h3.mono fun _ _ h => ⟨h.1.le hle, h.2.le hle⟩⟩
  · have hj := live (j := j) (by rw [hc]; rfl)
    have := fun y => away (j := j) (y := y) (by rw [hc]; rfl)
    rw [hj.2] at hc
    obtain ⟨b', arr, T, h1, h2, h3⟩ := r.rows j e y hc
    exact ⟨b', arr, T, h1, by rw [hk b' (this _ h1)]; exact h2, h3.le hle.z⟩
  · exact r.inj i j y y' (by rw [← (live hi).2]; exact hi) (by rw [← (live hj).2]; exact hj)
  · have := r.low j (by rw [← (live hj).2]; exact hj)
    rw [show (h.drop id).next = h.next from Hp.next_putB _ _ _]; exact this
  · rw [show (h.drop id).next = h.next from Hp.next_putB _ _ _] at hj
    exact r.free j hj
  · have hc' : (if c = b then some x else φ.z c) = some y := hc
    split at hc'
    · rename_i hcb
      subst hcb
      cases hc'
      exact ⟨hx, fun j y hj hy => away hj hy⟩
    · rename_i hcb
      refine ⟨(hk c hcb).trans (r.frz.at_ c y hc').1, fun j y' hj hy' => (r.frz.at_ c y hc').2 j y' (by rw [← (live hj).2]; exact hj) hy'⟩
  · exact ⟨j, y, by rw [← (live hj).2]; exact hj, hy, rfl⟩
  · have hc' : (if c = b then some x else φ.z c) = some y := hc
    split at hc'
    · rename_i hcb
      subst hcb
      exact .inr (.inr ⟨id, _, hl, hb, rfl⟩)
    · exact .inl hc'
def rowIs (o : Option AB) (e : Sh) (q : Nm) : Bool := match o with
  | some (.row e' q') => decide (e' = e) && decide (q' = q)
  | _ => false
def ltLen (F : List Fc) (t q : Nm) : Bool := match cmpF F .leq (.num 0) t, cmpF F .lss t (lenN F q) with
  | some true, some true => true
  | _, _ => false
noncomputable def natDl (F : List Fc) (call : CallF) (f : Bid) (vs : List AV) (h : Hp) : RO := match vs with
  | [.c (.sr id e q), .c a, .c c] => match nmI a, nmI c with
    | some t, some u => br ((decide (e = shI) && fdA F q) && ((rowIs (h.get id) e q && ltLen F t.2 q) && ((isI64 t.1 && isI64 u.1) && decide (u.2 = addN t.2 (.num 1))))) (.ok (.c (.ds e (.f2 1404 q t.2))) (h.drop id))
    | _, _ => .no
  | _ => call f vs h
theorem natDl_ok {F : List Fc} {call : CallF} (hC : CallOk Tryz.prog (envR F) call) : EntOk Tryz.prog (envR F) ⟨.x0, .xb, .x4⟩ (.natm (natDl F call ⟨.x0, .xb, .x4⟩)) := by
  refine ⟨fun args w => enter_run Tryz.func180 (by kernel_rfl) rfl args w, ?_⟩
  intro vs v h h' hv ρ φ w us he hr hu
  have hp : StdF ρ ∧ ∀ f ∈ F, f.holds QR ρ := envR_prop he
  have hv' : natDl F call ⟨.x0, .xb, .x4⟩ vs h = .ok v h' := hv
  unfold natDl at hv'
  split at hv'
  · rename_i id e q a c
    split at hv'
    · rename_i t u ht htu
      obtain ⟨hb, hv2⟩ := br_ok hv'
      simp only [Bool.and_eq_true, decide_eq_true_eq] at hb
      obtain ⟨⟨rfl, k1⟩, ⟨k2, k3⟩, ⟨k4, k5⟩, k6⟩ := hb
      cases hv2
      obtain ⟨m, hl, hm, ns, hns, hpw, hbd⟩ := fdA_ok hp.2 k1
      have hlen : ns.length ≤ 4000 := by rw [hns, List.length_map] at hl; exact hl
      have hget : h.get id = some (.row shI q) := by
        unfold rowIs at k2
        split at k2
        · rename_i e' q' heq
          rw [Bool.and_eq_true, decide_eq_true_eq, decide_eq_true_eq] at k2
          obtain ⟨rfl, rfl⟩ := k2
          exact heq
        · cases k2
      obtain ⟨h1, h2⟩ : 0 ≤ ρ.i t.2 ∧ ρ.i t.2 < ns.length := by
        unfold ltLen at k3
        split at k3
        · rename_i g1 g2
          have e1 := cmpF_ok hp.1 hp.2 g1
          have e2 := cmpF_ok hp.1 hp.2 g2
          rw [hp.1.num] at e1
          rw [lenN_ok hp.1 hp.2, hns, List.length_map] at e2
          simp only [icmp, Option.some.injEq, decide_eq_true_eq] at e1 e2
          exact ⟨e1, e2⟩
        · cases k3
      obtain ⟨k, hk⟩ := Int.eq_ofNat_of_zero_le h1
      have hkl : k < ns.length := by omega
      cases hu with
      | @cons _ v1 _ _ x1 t1 =>
        cases t1 with
        | @cons _ v2 _ _ x2 t2 =>
          cases t2 with
          | @cons _ v3 _ _ x3 t3 =>
            cases t3
            have e2 := nmI_ok hp.1.toStdA ht x2
            have e3 := nmI_ok hp.1.toStdA htu x3
            rw [isI64_eq k4, hk] at e2
            rw [isI64_eq k5, k6, addN_ok hp.1, hk, hp.1.num] at e3
            subst e2
            subst e3
            have e4 : ((k : Int) + 1) = ((k + 1 : Nat) : Int) := by omega
            rw [e4]
            obtain ⟨b, tot, cap, g1, rfl, g2, g3, g4⟩ := x1
            rw [show ρ.d q = nsD ns from hns, show (nsD ns).length = ns.length from List.length_map ..] at g2 ⊢
            obtain ⟨b', arr, T, q1, q2, q3⟩ := hr.rows id shI q hget
            rw [g1] at q1
            cases q1
            rw [show ρ.d q = nsD ns from hns] at q3
            have hcells : ∀ (j : Nat) (x : Int), ns[j]? = some x → arr[j]? = some (.int .i64 x) := fun j x hj => by
              have := q3.2 j [DV.i x] (by unfold nsD; rw [List.getElem?_map, hj]; rfl)
              obtain ⟨n', l', vs', a1, a2, a3⟩ := this
              cases a1
              rw [show shI.len = 1 from rfl, Nat.mul_one] at a2
              have h7 : ((arr.toList.drop j).take 1)[0]? = some (Value.int .i64 x) := by rw [a2]; rfl
              rw [List.getElem?_take_of_lt (by decide), List.getElem?_drop, Nat.add_zero] at h7
              rw [← Array.getElem?_toList]; exact h7
            have harr : ns.length ≤ arr.size := by
              have := q3.1
              rw [show (nsD ns).length = ns.length from List.length_map .., show shI.len = 1 from rfl] at this
              omega
            have hfz : ∀ o, w.frozen? ⟨b, o, none⟩ = false := fun o => by simp [World.frozen?, q2]
            refine (Tryz.slices_Delete_int b 0 cap k (k + 1) ns w (fun j hj => ?_) g2 g4 (by omega) (by omega)).mono ?_
            · rw [List.size_toArray] at hj
              refine ⟨?_, hfz _⟩
              rw [cell_of_row w _ _ _ _ _ q2, Nat.zero_add, hcells j ns[j] (List.getElem?_eq_getElem hj)]
              rw [getElem!_pos ns.toArray j (by simpa using hj)]
              simp
            · rintro en w' ⟨rfl, nq, rfl⟩
              have e5 : ns.length - (k + 1 - k) = (ns.eraseIdx k).length := by rw [List.length_eraseIdx, if_pos hkl]; omega
              have hd : ρ.d (.f2 1404 q t.2) = nsD (ns.eraseIdx k) := by
                rw [hp.1.del, hk, show ρ.d q = nsD ns from hns]
                show (nsD ns).eraseIdx k = _
                unfold nsD
                rw [List.eraseIdx_eq_take_drop_succ, List.eraseIdx_eq_take_drop_succ, List.map_append, List.map_take, List.map_drop]
              generalize hdd : (ns.take k ++ ns.drop (k + 1) ++ List.replicate (k + 1 - k) (0 : Int)).toArray = dd
              have hdsz : dd.size = ns.length := by rw [← hdd]; simp; omega
              have hobj : (putRow (Value.int .i64) (Sort.ahead w nq) b 0 dd).heap[b]? = some (.cells (putCells (Value.int .i64) 0 dd arr) T (0, 0)) := by
                show (w.heap.modify b (onCells _))[b]? = _
                rw [Array.getElem?_modify, if_pos rfl, q2]; rfl
              refine ⟨_, _, rfl, ?_, row_freeze hr (by rw [hget]; rfl) g1 hobj (by show (w.heap.modify b _).size = _; rw [Array.size_modify]) (fun c hc => ?_) rfl rfl rfl⟩
              · show SlD _ shI (ρ.d (.f2 1404 q t.2)) _
                rw [hd, e5]
                refine ⟨_, cap, by rw [show (nsD (ns.eraseIdx k)).length = (ns.eraseIdx k).length from List.length_map ..], ?_, .inr ⟨b, 0, putCells (Value.int .i64) 0 dd arr, T, (0, 0), rfl, ?_, fun i row hrow => ?_⟩⟩
                · rw [show (nsD (ns.eraseIdx k)).length = (ns.eraseIdx k).length from List.length_map .., ← e5]; omega
                · show (if b = b then _ else _) = _
                  rw [if_pos rfl]
                · obtain ⟨m', hm', rfl⟩ := nsD_get hrow
                  have hi : i < (ns.eraseIdx k).length := (List.getElem?_eq_some_iff.1 hm').1
                  have hi2 : i < arr.size := by omega
                  have hc : (putCells (Value.int .i64) 0 dd arr).toList[i]? = some (.int .i64 m') := by
                    rw [Array.getElem?_toList]
                    unfold putCells
                    rw [Array.getElem?_mapIdx, Array.getElem?_eq_getElem hi2, Option.map_some, if_pos (by omega)]
                    congr 2
                    rw [Nat.sub_zero, getElem!_pos dd i (by omega)]
                    have : dd[i]? = some m' := by
                      rw [← hdd, List.getElem?_toArray, List.getElem?_append_left (by simp; omega), ← List.eraseIdx_eq_take_drop_succ]
                      exact hm'
                    exact (Array.getElem?_eq_some_iff.1 this).2
                  rw [Nat.zero_add, show shI.len = 1 from rfl, show i * 1 = i * shI.len from rfl, take1 hc]
                  exact rowD_int _ _
              · show (w.heap.modify b _)[c]? = _
                rw [Array.getElem?_modify, if_neg (fun e => hc e.symm)]
    · cases hv'
  · exact (hC _ vs h v h' hv').2 ρ φ w us he hr hu
end Go.Proofs.YtnofmmceafkkoaaGreat
