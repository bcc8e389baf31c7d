/-
  Contracts over pages whose cells are only named: page.cells; strings of known length: codec.Put, strings.Repeat, codec.Sum.
-/
import Derived.Test.YtjnfgapfhpihmaaGreatSeJ
import Derived.Test.YtjnfgapfhpihmaaGreatShelf
import Derived.Test.YtjnfgapfhpihmaaGreatNat1
set_option linter.unusedVariables false
set_option linter.unusedSimpArgs false
section
namespace Go.Proofs.YtjnfgapfhpihmaaGreat
open Go.RowKit
def nsD (ns : List Int) : List (List DV) := ns.map fun n => [DV.i n]
theorem ns_slice {z : Nat → Option Obj} {ns : List Int} {v : Value} (h : SlD z shI (nsD ns) v) : ∃ p cap, v = .slice p ns.length cap ∧ ns.length ≤ cap ∧ (ns = [] ∨ ∃ b off arr T fz, p = some ⟨b, off, none⟩ ∧ z b = some (.cells arr T fz) ∧ ∀ j (hj : j < ns.length), arr[off + j]? = some (.int .i64 ns[j])) := by
  obtain ⟨p, cap, h1, h2, h3⟩ := h
  have hl : (nsD ns).length = ns.length := List.length_map ..
  refine ⟨p, cap, by rw [h1, hl], by rw [← hl]; exact h2, ?_⟩
  rcases h3 with h3 | ⟨b, off, arr, T, fz, h4, h5, h6⟩
  · exact .inl (List.map_eq_nil_iff.1 h3)
  · refine .inr ⟨b, off, arr, T, fz, h4, h5, fun j hj => ?_⟩
    have hrow : (nsD ns)[j]? = some [DV.i ns[j]] := by unfold nsD; rw [List.getElem?_map, List.getElem?_eq_getElem hj]; rfl
    obtain ⟨n, l', vs', e1, e2, e3⟩ := h6 j _ hrow
    cases e1
    have hs : shI.len = 1 := rfl
    rw [hs, Nat.mul_one] at e2
    have h7 : ((arr.toList.drop (off + j)).take 1)[0]? = some (Value.int .i64 ns[j]) := by rw [e2]; rfl
    rw [List.getElem?_take_of_lt (by decide), List.getElem?_drop, Nat.add_zero] at h7
    rw [← Array.getElem?_toList]; exact h7
theorem cell_of_frozen {z : Nat → Option Obj} {ρ : Vn} {φ : Emb} {h : Hp} {w : World} (hr : Rel ρ φ h w) {b off : Nat} {arr : Array Value} {T : TypeId} {fz : Nat × Nat} (hz : φ.z b = some (.cells arr T fz)) (o : Nat) {v : Value} (hv : arr[o]? = some v) : w.cell? ⟨b, o, none⟩ = some v := by
  have := (hr.frz.at_ b _ hz).1
  rw [cell_of_row w _ o _ _ _ this]; exact hv
theorem countP_at : ∀ {ns : List Int}, ns.Pairwise (· < ·) → ∀ {k : Nat} {x : Int}, ns[k]? = some x → ns.countP (· < x) = k
  | [], _, k, x, h => by simp at h
  | n :: ns, hp, 0, x, h => by
    simp at h
    subst h
    rw [List.pairwise_cons] at hp
    rw [List.countP_cons_of_neg (by simp), List.countP_eq_zero]
    intro m hm
    have := hp.1 m hm
    simp; omega
  | n :: ns, hp, k + 1, x, h => by
    rw [List.pairwise_cons] at hp
    have h' : ns[k]? = some x := by simpa using h
    have := hp.1 x (List.mem_of_getElem? h')
    rw [List.countP_cons_of_pos (by simpa using this), countP_at hp.2 h']
def fdA (F : List Fc) (q : Nm) : Bool := match F with
  | [] => false
  | .pr k [q', _] :: l => bif Nat.beq k 3 && decide (q' = q) then true else fdA l q
  | _ :: l => fdA l q
def fdAt (F : List Fc) (q x : Nm) : Option Nm := match F with
  | [] => none
  | .pr k [q', x', a] :: l => bif Nat.beq k 4 && (decide (q' = q) && decide (x' = x)) then some a else fdAt l q x
  | _ :: l => fdAt l q x
theorem fdA_ok {ρ : Vn} : ∀ {F : List Fc} {q : Nm}, (∀ f ∈ F, f.holds QR ρ) → fdA F q = true → ∃ m, Asc (ρ.d q) m
  | [], q, h, e => by cases e
  | f :: l, q, h, e => by
    have ih := fun e' => fdA_ok (F := l) (q := q) (fun f hf => h f (List.mem_cons_of_mem _ hf)) e'
    unfold fdA at e
    split at e
    · rename_i heq; cases heq
    · rename_i k q' m' l' heq
      cases heq
      cases hd : (Nat.beq k 3 && decide (q' = q)) with
      | true =>
        rw [Bool.and_eq_true, decide_eq_true_eq] at hd
        obtain ⟨h1, rfl⟩ := hd
        cases Nat.eq_of_beq_eq_true h1
        exact ⟨_, h _ List.mem_cons_self⟩
      | false => rw [hd] at e; exact ih e
    · rename_i heq
      cases heq
      exact ih e
theorem fdAt_ok {ρ : Vn} : ∀ {F : List Fc} {q x a : Nm}, (∀ f ∈ F, f.holds QR ρ) → fdAt F q x = some a → IsAt (ρ.d q) (ρ.i x) (ρ.i a)
  | [], q, x, a, h, e => by cases e
  | f :: l, q, x, a, h, e => by
    have ih := fun e' => fdAt_ok (F := l) (q := q) (x := x) (a := a) (fun f hf => h f (List.mem_cons_of_mem _ hf)) e'
    unfold fdAt at e
    split at e
    · rename_i heq; cases heq
    · rename_i k q' x' a' l' heq
      cases heq
      cases hd : (Nat.beq k 4 && (decide (q' = q) && decide (x' = x))) with
      | true =>
        rw [hd] at e
        cases e
        rw [Bool.and_eq_true, Bool.and_eq_true, decide_eq_true_eq, decide_eq_true_eq] at hd
        obtain ⟨h1, rfl, rfl⟩ := hd
        cases Nat.eq_of_beq_eq_true h1
        exact h _ List.mem_cons_self
      | false => rw [hd] at e; exact ih e
    · rename_i heq
      cases heq
      exact ih e
def natBS (F : List Fc) : List AV → Option AV
  | [.c (.ds e q), .c x] => bif decide (e = shI) then (match nmI x with
    | some t => bif isI64 t.1 then (bif decide (t.2 = .num 0) && fdA F q then some (.t [.c (.i .i64 0), .c (.b false)]) else match fdAt F q t.2 with
      | some a => some (.t [.c (conF F .i64 a), .c (.b true)])
      | none => none) else none
    | none => none) else none
  | _ => none
theorem bs_walk {ρ : Vn} {φ : Emb} {h : Hp} {w : World} (hr : Rel ρ φ h w) {ns : List Int} (hp : ns.Pairwise (· < ·)) (hl : ns.length ≤ 4000) {v : Value} (hv : SlD φ.z shI (nsD ns) v) (x : Int) : Calls Tryz.prog 216 #[v, .int .i64 x] w fun e w' => e = .returned (.tuple #[.int .i64 (ns.countP (· < x) : Nat), .bool (ns.contains x)]) ∧ Below w.heap.size w w' := by
  obtain ⟨p, cap, rfl, hc, h0⟩ := ns_slice hv
  rcases h0 with rfl | ⟨b, off, arr, T, fz, rfl, hz, hcell⟩
  · refine (Tryz.slices_BinarySearch_int_empty p cap x w).mono ?_
    rintro e w' ⟨rfl, rfl⟩
    exact ⟨rfl, Below.refl _ _⟩
  · refine (Tryz.slices_BinarySearch_int b off ns.length cap ns x w (Nat.le_refl _) (by omega) (fun j hj => ?_) ?_).mono ?_
    · have := cell_of_frozen (z := φ.z) (off := off) hr hz (off + j) (hcell j hj)
      rw [this]
      simp [List.getD, List.getElem?_eq_getElem hj]
    · rw [List.take_length]
      exact hp.imp fun h => Int.le_of_lt h
    · rintro e w' ⟨rfl, q, rfl⟩
      rw [List.take_length]
      exact ⟨rfl, ⟨rfl, rfl, rfl, Nat.le_refl _, fun _ _ => rfl⟩⟩
theorem natBS_ok (F : List Fc) : NatOk Tryz.prog (envR F) 216 (natBS F) := by
  intro vs v hv ρ φ h w us he hr hu
  have hp : StdF ρ ∧ ∀ f ∈ F, f.holds QR ρ := envR_prop he
  unfold natBS at hv
  split at hv
  · rename_i e q x
    cases hc : decide (e = shI) with
    | false => rw [hc] at hv; cases hv
    | true =>
      rw [hc] at hv
      cases of_decide_eq_true hc
      simp only [cond_true] at hv
      split at hv
      · rename_i t ht
        cases hc : isI64 t.1 with
        | false => rw [hc] at hv; cases hv
        | true =>
          rw [hc] at hv
          simp only [cond_true] at hv
          have hk := isI64_eq hc
          cases hu with
          | @cons _ v1 _ _ x1 t1 =>
            cases t1 with
            | cons x2 t2 =>
              cases t2
              have hx2 := nmI_ok hp.1.toStdA ht x2
              rw [hk] at hx2
              cases hd : (decide (t.2 = .num 0) && fdA F q) with
              | true =>
                rw [hd] at hv
                cases hv
                rw [Bool.and_eq_true, decide_eq_true_eq] at hd
                obtain ⟨m, hl, hm, ns, hns, hpw, hb⟩ := fdA_ok hp.2 hd.2
                rw [hd.1, hp.1.num] at hx2
                rw [hx2]
                have x1' : SlD φ.z shI (nsD ns) v1 := by rw [show nsD ns = ρ.d q from hns.symm]; exact x1
                refine (bs_walk hr hpw (by rw [hns, List.length_map] at hl; exact hl) x1' 0).mono ?_
                rintro en w' ⟨rfl, b⟩
                have c1 : ns.countP (· < (0 : Int)) = 0 := by
                  rw [List.countP_eq_zero]
                  intro n hn
                  have := hb n hn
                  simp; omega
                have c2 : ns.contains (0 : Int) = false := by
                  cases hc : ns.contains (0 : Int) with
                  | false => rfl
                  | true =>
                    have := hb 0 (by simpa using hc)
                    omega
                rw [c1, c2]
                exact ⟨_, φ, rfl, ⟨_, rfl, .cons (show VT ρ φ (.c (.i .i64 0)) _ from rfl) (.cons (show VT ρ φ (.c (.b false)) _ from rfl) .nil)⟩, hr.keepS b⟩
              | false =>
                rw [hd] at hv
                simp only [cond_false] at hv
                split at hv
                · rename_i a ha
                  cases hv
                  obtain ⟨h0, h1, m, hl, hm, ns, hns, hpw, hb⟩ := fdAt_ok hp.2 ha
                  rw [hx2]
                  have x1' : SlD φ.z shI (nsD ns) v1 := by rw [show nsD ns = ρ.d q from hns.symm]; exact x1
                  refine (bs_walk hr hpw (by rw [hns, List.length_map] at hl; exact hl) x1' (ρ.i t.2)).mono ?_
                  rintro en w' ⟨rfl, b⟩
                  have h2 : ns[(ρ.i a).toNat]? = some (ρ.i t.2) := by
                    rw [hns, List.getElem?_map] at h1
                    cases hq : ns[(ρ.i a).toNat]? with
                    | none => rw [hq] at h1; cases h1
                    | some y => rw [hq] at h1; cases h1; rfl
                  rw [countP_at hpw h2, show ns.contains (ρ.i t.2) = true from by simpa using List.mem_of_getElem? h2]
                  have e3 : (((ρ.i a).toNat : Nat) : Int) = ρ.i a := Int.toNat_of_nonneg h0
                  rw [e3]
                  exact ⟨_, φ, rfl, ⟨_, rfl, .cons (show VT ρ φ (.c (conF F .i64 a)) _ from conF_ok hp.1 hp.2 _ _) (.cons (show VT ρ φ (.c (.b true)) _ from rfl) .nil)⟩, hr.keepS b⟩
                · cases hv
      · cases hv
  · cases hv
end Go.Proofs.YtjnfgapfhpihmaaGreat
end
section
namespace Go.Proofs.YtjnfgapfhpihmaaGreat
open Go.RowKit
def mapV (f : AC → AC) : AV → AV
  | .c x => .c (f x)
  | .a l => .a (l.map f)
  | .t l => .t l
def mapB (f : AC → AC) : AB → AB
  | .cells c => .cells (c.map f)
  | b => b
def Lit.map (f : AC → AC) (s : Lit) : Lit := ⟨s.fr.map fun x => (x.1, x.2.1, mapV f x.2.2), s.mem.map fun x => (x.1, mapB f x.2), s.next⟩
theorem frameL_map (f : AC → AC) (i j : D16) : ∀ l : List (D16 × D16 × AV), getF i j (@List.rec (D16 × D16 × AV) (fun _ => Fr) Fr.nil (fun x _ ih => putF x.1 x.2.1 x.2.2 ih) (l.map fun x => (x.1, x.2.1, mapV f x.2.2))) = (getF i j (@List.rec (D16 × D16 × AV) (fun _ => Fr) Fr.nil (fun x _ ih => putF x.1 x.2.1 x.2.2 ih) l)).map (mapV f)
  | [] => by simp [getF_nil]
  | x :: l => by
    have ih := frameL_map f i j l
    show getF i j (putF x.1 x.2.1 (mapV f x.2.2) _) = (getF i j (putF x.1 x.2.1 x.2.2 _)).map (mapV f)
    by_cases h : i = x.1 ∧ j = x.2.1
    · obtain ⟨rfl, rfl⟩ := h
      rw [getF_putF, getF_putF]; rfl
    · rw [getF_putF_ne h, getF_putF_ne h]; exact ih
theorem memL_map (f : AC → AC) (id : Bid) : ∀ l : List (Bid × AB), get3 (memOf (l.map fun x => (x.1, mapB f x.2))) id = (get3 (memOf l) id).map (mapB f)
  | [] => by
    show get3 bl0 id = (get3 bl0 id).map _
    rw [show get3 bl0 id = none from get3_rep id none]; rfl
  | x :: l => by
    have ih := memL_map f id l
    show get3 (put3 (memOf (l.map fun x => (x.1, mapB f x.2))) x.1 (some (mapB f x.2))) id = (get3 (put3 (memOf l) x.1 (some x.2)) id).map (mapB f)
    by_cases h : id = x.1
    · subst h
      rw [get3_put3, get3_put3]; rfl
    · rw [get3_put3_ne h, get3_put3_ne h]; exact ih
theorem All2.mapL {α β γ : Type} {R : α → β → Prop} {S : γ → β → Prop} {f : α → γ} (h : ∀ x y, R x y → S (f x) y) {l : List α} {m : List β} (a : All2 R l m) : All2 S (l.map f) m := by
  induction a with
  | nil => exact .nil
  | cons h1 _ ih => exact .cons (h _ _ h1) ih
theorem At.map {w0 : World} {N : Nat} {ρ : Vn} {s : Lit} {a : Act} {w : World} (h : At w0 N ρ s a w) {f : AC → AC} (hf : ∀ φ c v, VC ρ φ c v → VC ρ φ (f c) v) : At w0 N ρ (s.map f) a w := by
  obtain ⟨φ, h1, h2, h3, h4, h5⟩ := h
  have hg : ∀ id, (s.map f).hp.get id = (s.hp.get id).map (mapB f) := fun id => memL_map f id s.mem
  have hs : ∀ id, ((s.map f).hp.get id).isSome = (s.hp.get id).isSome := fun id => by rw [hg, Option.isSome_map]
  refine ⟨φ, fun i j v hv => ?_, ⟨⟨fun id c hc => ?_, fun id l hc => ?_, fun id e y hc => ?_, fun i j x y hi hj => h2.inj i j x y (by rw [← hs]; exact hi) (by rw [← hs]; exact hj), fun i hi => h2.low i (by rw [← hs]; exact hi), h2.free⟩, ⟨h2.frz.zin, fun b x hb => ⟨(h2.frz.at_ b x hb).1, fun i y hi => (h2.frz.at_ b x hb).2 i y (by rw [← hs]; exact hi)⟩⟩⟩, ⟨h3.old, h3.size, h3.os, h3.tape, h3.output, fun i x hi => h3.live i x (by rw [← hs]; exact hi)⟩, h4, h5⟩
  · have hv' : (getF i j s.frame).map (mapV f) = some v := (frameL_map f i j s.fr).symm.trans hv
    obtain ⟨u, hu, rfl⟩ := map_some hv'
    obtain ⟨k1, k2⟩ := h1 i j u hu
    refine ⟨k1, ?_⟩
    cases u with
    | c x => exact hf _ _ _ k2
    | a l => obtain ⟨vs, q1, q2⟩ := k2; exact ⟨vs, q1, q2.mapL fun x y hx => hf _ _ _ hx⟩
    | t l => exact k2
  · rw [hg] at hc
    obtain ⟨B, hB, e⟩ := map_some hc
    cases B with
    | cells c0 =>
      cases e
      obtain ⟨b, base, arr, T, k1, k2, k3, k4⟩ := h2.cells id c0 hB
      refine ⟨b, base, arr, T, k1, k2, by rw [List.length_map]; exact k3, fun o x hx => ?_⟩
      rw [List.getElem?_map] at hx
      obtain ⟨y, hy, rfl⟩ := map_some hx
      obtain ⟨v, q1, q2⟩ := k4 o y hy
      exact ⟨v, q1, hf _ _ _ q2⟩
    | map l => cases e
    | row e0 y0 => cases e
  · rw [hg] at hc
    obtain ⟨B, hB, e⟩ := map_some hc
    cases B with
    | cells c0 => cases e
    | map l0 => cases e; exact h2.maps id _ hB
    | row e0 y0 => cases e
  · rw [hg] at hc
    obtain ⟨B, hB, e⟩ := map_some hc
    cases B with
    | cells c0 => cases e
    | map l0 => cases e
    | row e0 y0 => cases e; exact h2.rows id _ _ hB
def numIn (F : List Fc) (c : AC) (lo hi : Int) : Bool := match nmI c with
  | some x => isI64 x.1 && (match cmpF F .leq (.num lo) x.2, cmpF F .leq x.2 (.num hi) with | some true, some true => true | _, _ => false)
  | none => false
theorem numIn_ok {F : List Fc} {ρ : Vn} (hs : StdF ρ) (hF : ∀ f ∈ F, f.holds QR ρ) {φ : Emb} {c : AC} {lo hi : Int} (e : numIn F c lo hi = true) {v : Value} (hv : VC ρ φ c v) : ∃ n, v = .int .i64 n ∧ lo ≤ n ∧ n ≤ hi := by
  unfold numIn at e
  split at e
  · rename_i x hx
    rw [Bool.and_eq_true] at e
    obtain ⟨k1, k2⟩ := e
    split at k2
    · rename_i g2 g3
      have e1 := cmpF_ok hs hF g2
      have e2 := cmpF_ok hs hF g3
      rw [hs.num] at e1 e2
      simp only [icmp, Option.some.injEq, decide_eq_true_eq] at e1 e2
      have hv3 := nmI_ok hs.toStdA hx hv
      rw [isI64_eq k1] at hv3
      exact ⟨_, hv3, e1, e2⟩
    · cases k2
  · cases e
def no1 : List AC → Option (List AC)
  | .b false :: .s [] :: r => some r
  | _ => none
def no7 (r : List AC) : Option (List AC) := ((((((no1 r).bind no1).bind no1).bind no1).bind no1).bind no1).bind no1
def pg7 : List AC → Option (AC × AC × AC × AC)
  | c0 :: c1 :: r => (match no7 r with
    | some (b :: d :: r) => (match (no7 r).bind no1 with
      | some [] => some (c0, c1, b, d)
      | _ => none)
    | _ => none)
  | _ => none
def noV : List Value := [.bool false, .string ⟨#[]⟩]
def noVs (k : Nat) : List Value := (List.replicate k noV).flatten
def pgV (id lsn : Int) (b : Bool) (s : ByteArray) : List Value := .int .i64 id :: .int .i64 lsn :: (noVs 7 ++ (.bool b :: .string s :: noVs 8))
theorem no1_ok {ρ : Vn} {φ : Emb} {l r : List AC} (e : no1 l = some r) {vs : List Value} (h : All2 (VC ρ φ) l vs) : ∃ us, vs = noV ++ us ∧ All2 (VC ρ φ) r us := by
  unfold no1 at e
  split at e
  · cases e
    cases h with
    | cons x1 t1 =>
      cases t1 with
      | cons x2 t2 =>
        obtain ⟨y, rfl, hy⟩ := x2
        have hb : _ = Value.bool false := x1
        refine ⟨_, ?_, t2⟩
        have : y = ⟨#[]⟩ := by
          cases y with | mk a => cases a with | mk q =>
          have hq : q.map UInt8.toNat = [] := hy
          rw [List.map_eq_nil_iff.1 hq]
        rw [hb, this]; rfl
  · cases e
theorem no7_ok {ρ : Vn} {φ : Emb} {l r : List AC} (e : no7 l = some r) {vs : List Value} (h : All2 (VC ρ φ) l vs) : ∃ us, vs = noVs 7 ++ us ∧ All2 (VC ρ φ) r us := by
  unfold no7 at e
  simp only [Option.bind_eq_some_iff] at e
  obtain ⟨a6, ⟨a5, ⟨a4, ⟨a3, ⟨a2, ⟨a1, e1, e2⟩, e3⟩, e4⟩, e5⟩, e6⟩, e7⟩ := e
  obtain ⟨u1, rfl, h1⟩ := no1_ok e1 h
  obtain ⟨u2, rfl, h2⟩ := no1_ok e2 h1
  obtain ⟨u3, rfl, h3⟩ := no1_ok e3 h2
  obtain ⟨u4, rfl, h4⟩ := no1_ok e4 h3
  obtain ⟨u5, rfl, h5⟩ := no1_ok e5 h4
  obtain ⟨u6, rfl, h6⟩ := no1_ok e6 h5
  obtain ⟨u7, rfl, h7⟩ := no1_ok e7 h6
  exact ⟨u7, rfl, h7⟩
theorem pg7_ok {ρ : Vn} {φ : Emb} {l : List AC} {c0 c1 b d : AC} (e : pg7 l = some (c0, c1, b, d)) {vs : List Value} (h : All2 (VC ρ φ) l vs) : ∃ v0 v1 x y, vs = v0 :: v1 :: (noVs 7 ++ (x :: y :: noVs 8)) ∧ VC ρ φ c0 v0 ∧ VC ρ φ c1 v1 ∧ VC ρ φ b x ∧ VC ρ φ d y := by
  unfold pg7 at e
  split at e
  · rename_i k0 k1 r
    cases h with
    | cons x1 t1 =>
      cases t1 with
      | cons x2 t2 =>
        split at e
        · rename_i b' d' r' h7
          obtain ⟨us, rfl, h8⟩ := no7_ok h7 t2
          cases h8 with
          | cons x3 t3 =>
            cases t3 with
            | cons x4 t4 =>
              split at e
              · rename_i h9
                cases e
                obtain ⟨a1, g1, g2⟩ := Option.bind_eq_some_iff.1 h9
                obtain ⟨u1, rfl, h1⟩ := no7_ok g1 t4
                obtain ⟨u2, rfl, h2⟩ := no1_ok g2 h1
                cases h2
                exact ⟨_, _, _, _, rfl, x1, x2, x3, x4⟩
              · cases e
        · cases e
  · cases e
def lenIs (F : List Fc) (t : Nm) (n : Int) : Bool := match rngF F (.f1 6 t) with
  | some r => decide (n ≤ r.1) && decide (r.2 ≤ n)
  | none => false
def cell7 (F : List Fc) (c1 b d : AC) : Bool := match b, d with
  | .b true, .ss t => numIn F c1 1 4000 && lenIs F t 1
  | .b false, .s [] => numIn F c1 0 4000
  | b, d => (match nmI c1, nmB b, nmS d with
    | some x, some y, some t => isI64 x.1 && fdP F 13 [x.2, y, t]
    | _, _, _ => false)
def page7 (F : List Fc) (l : List AC) : Bool := match pg7 l with
  | some (c0, c1, b, d) => numIn F c0 0 63 && cell7 F c1 b d
  | none => false
theorem lenIs_ok {F : List Fc} {ρ : Vn} (hs : StdF ρ) (hF : ∀ f ∈ F, f.holds QR ρ) {t : Nm} {n : Int} (e : lenIs F t n = true) : ((ρ.s t).size : Int) = n := by
  unfold lenIs at e
  split at e
  · rename_i r hr
    have h1 := rngF_ok hs hF hr
    rw [hs.slen] at h1
    simp only [Bool.and_eq_true, decide_eq_true_eq] at e
    omega
  · cases e
theorem cell7_ok {F : List Fc} {ρ : Vn} (hs : StdF ρ) (hF : ∀ f ∈ F, f.holds QR ρ) {φ : Emb} {c1 b d : AC} (e : cell7 F c1 b d = true) {v x y : Value} (h1 : VC ρ φ c1 v) (h2 : VC ρ φ b x) (h3 : VC ρ φ d y) : ∃ lsn bb ss, v = .int .i64 lsn ∧ x = .bool bb ∧ y = .string ss ∧ PgC lsn bb ss := by
  unfold cell7 at e
  split at e
  · rename_i t
    rw [Bool.and_eq_true] at e
    obtain ⟨n, rfl, g1, g2⟩ := numIn_ok hs hF e.1 h1
    have := lenIs_ok hs hF e.2
    exact ⟨n, true, ρ.s t, rfl, h2, h3, .inr ⟨g1, g2, rfl, by omega⟩⟩
  · obtain ⟨n, rfl, g1, g2⟩ := numIn_ok hs hF e h1
    obtain ⟨s, rfl, hy⟩ := h3
    have : s = ⟨#[]⟩ := by
      cases s with | mk a => cases a with | mk q =>
      have hq : q.map UInt8.toNat = [] := hy
      rw [List.map_eq_nil_iff.1 hq]
    exact ⟨n, false, s, rfl, h2, rfl, .inl ⟨g1, g2, rfl, this⟩⟩
  · split at e
    · rename_i p q t hp hq ht
      rw [Bool.and_eq_true] at e
      have h4 : QR 13 [mv ρ p.2, mv ρ q, mv ρ t] := fdP_ok hF e.2
      have h5 := nmI_ok hs.toStdA hp h1
      rw [isI64_eq e.1] at h5
      exact ⟨ρ.i p.2, ρ.b q, ρ.s t, h5, nmB_ok hs hq h2, nmS_ok hs.toStdA ht h3, h4⟩
    · cases e
theorem page7_ok {F : List Fc} {ρ : Vn} (hs : StdF ρ) (hF : ∀ f ∈ F, f.holds QR ρ) {φ : Emb} {l : List AC} (e : page7 F l = true) {vs : List Value} (h : All2 (VC ρ φ) l vs) : ∃ id lsn bb ss, vs = pgV id lsn bb ss ∧ 0 ≤ id ∧ id ≤ 63 ∧ PgC lsn bb ss := by
  unfold page7 at e
  split at e
  · rename_i c0 c1 b d hp
    rw [Bool.and_eq_true] at e
    obtain ⟨v0, v1, x, y, rfl, h0, h1, h2, h3⟩ := pg7_ok hp h
    obtain ⟨id, rfl, g1, g2⟩ := numIn_ok hs hF e.1 h0
    obtain ⟨lsn, bb, ss, rfl, rfl, rfl, h4⟩ := cell7_ok hs hF e.2 h1 h2 h3
    exact ⟨id, lsn, bb, ss, rfl, g1, g2, h4⟩
  · cases e
end Go.Proofs.YtjnfgapfhpihmaaGreat
end
