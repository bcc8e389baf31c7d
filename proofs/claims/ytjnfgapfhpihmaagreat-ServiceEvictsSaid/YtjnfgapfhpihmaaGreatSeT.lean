/-
  Contracts over locks held by one transaction: what is valid, what is beyond the pages; a run from an empty memory that froze more.
-/
import Derived.Test.YtjnfgapfhpihmaaGreatSeV
import Derived.Test.YtjnfgapfhpihmaaGreatKL0
set_option linter.unusedVariables false
set_option linter.unusedSimpArgs false
set_option maxRecDepth 100000
namespace Go.Proofs.YtjnfgapfhpihmaaGreat
open Go.RowKit
theorem Stp.lift {ρ ρ' : Vn} {φ φ1 : Emb} {h h1 : Hp} {w w1 : World} (r : Rel ρ φ h w) (S : Stp ρ' (Emb.nil φ.z) hp0 w φ1 h1 w1) (z' : Nat → Option Obj) (hz : ∀ b x, φ.z b = some x → z' b = some x) (hz' : ∀ b x, z' b = some x → φ.z b = some x ∨ (w.heap.size ≤ b ∧ w1.heap[b]? = some x)) : Stp ρ φ h w ⟨φ.m, z'⟩ h w1 := by
  have B := S.old
  have r1 := r.keep B
  have hle : φ.le ⟨φ.m, z'⟩ := ⟨fun _ _ h => h, hz⟩
  refine ⟨hle, ⟨⟨fun id c hc => ?_, fun id l hc => ?_, fun id d y hc => ?_, r1.inj, r1.low, r1.free⟩, ⟨fun c y hc => hz c y (r.frz.zin c y hc), fun c y hc => ?_⟩⟩, B.size, fun b hb _ => B.block b hb, fun id x hl hx _ => ⟨id, x, hl, hx, rfl⟩, Nat.le_refl _, fun _ h => .inl h, B.os, B.tape, B.output, fun c y hc => ?_⟩
  · obtain ⟨bl, base, arr, T, h1, h2, h3⟩ := r1.cells id c hc
    exact ⟨bl, base, arr, T, h1, h2, h3.le hle⟩
  · obtain ⟨bl, es, cl, h1, h2, h3⟩ := r1.maps id l hc
    exact ⟨bl, es, cl, h1, h2, h3.mono fun _ _ h => ⟨h.1.le hle, h.2.le hle⟩⟩
  · obtain ⟨bl, arr, T, h1, h2, h3⟩ := r1.rows id d y hc
    exact ⟨bl, arr, T, h1, h2, h3.le hle.z⟩
  · rcases hz' c y hc with h | ⟨h2, h3⟩
    · exact r1.frz.at_ c y h
    · exact ⟨h3, fun id q hi hq e => by have := r.block hi hq; omega⟩
  · rcases hz' c y hc with h | ⟨h2, h3⟩
    · exact .inl h
    · exact .inr (.inl h2)
def natVg (F : List Fc) : List AV → Option AV
  | [.a [t, p, s, m]] => bif (decide (t = .i .i64 (.ofNat 1)) && decide (s = .i .i64 (.ofNat 7))) && (numIn F p 0 63 && numIn F m 1 2) then some (.c (.b true)) else none
  | _ => none
noncomputable def tblG : Tab := tabOf [(⟨.x0, .x7, .x6⟩, c118), (⟨.x0, .x6, .x6⟩, c102)]
theorem tblG_ok {E : Env} : TabOk Tryz.prog E tblG := tab_cons (tab_cons tab_nil e102) e118
def FG : List Fc := [.rng (.v (nat_lit 0)) 0 63]
noncomputable def runG (f : Bid) (m : Nat) : Bool := isTrue (callBy tblG (aev Tryz.prog (envR FG) tblG (nat_lit 60)) f [.a [.i .i64 (.ofNat (nat_lit 1)), .si .i64 (.v (nat_lit 0)), .i .i64 (.ofNat (nat_lit 7)), .i .i64 (.ofNat m)]] hp0)
theorem natVg_core (F : List Fc) {f : Bid} (h1 : runG f 1 = true) (h2 : runG f 2 = true) : NatOk Tryz.prog (envR F) f.num (natVg F) := by
  intro vs v hv ρ φ h w us he hr hu
  have hp := envR_prop he
  unfold natVg at hv
  split at hv
  · rename_i t p s m
    cases hb : ((decide (t = .i .i64 (.ofNat 1)) && decide (s = .i .i64 (.ofNat 7))) && (numIn F p 0 63 && numIn F m 1 2)) with
    | false => rw [hb] at hv; cases hv
    | true =>
      rw [hb] at hv
      cases hv
      rw [Bool.and_eq_true, Bool.and_eq_true, Bool.and_eq_true, decide_eq_true_eq, decide_eq_true_eq] at hb
      obtain ⟨⟨rfl, rfl⟩, b3, b4⟩ := hb
      cases hu with
      | cons a1 t1 =>
        cases t1
        obtain ⟨xs, rfl, hx⟩ := a1
        cases hx with
        | cons x1 t2 =>
          cases t2 with
          | cons x2 t3 =>
            cases t3 with
            | cons x3 t4 =>
              cases t4 with
              | cons x4 t5 =>
                cases t5
                cases (show _ = Value.int .i64 1 from x1)
                cases (show _ = Value.int .i64 7 from x3)
                obtain ⟨p', rfl, p0, p1⟩ := numIn_ok hp.1 hp.2 b3 x2
                obtain ⟨m', rfl, m0, m1⟩ := numIn_ok hp.1 hp.2 b4 x4
                have hF : ∀ f ∈ FG, f.holds QR (vb (fun _ => { i := p' }) gIf φ.z) := facts_cons ⟨p0, p1⟩ facts_nil
                have hm : m' = 1 ∨ m' = 2 := by omega
                rcases hm with rfl | rfl
                · exact true_run (eval_ok tblG_ok mixedS (nat_lit 60)) h1 hr hF (.cons ⟨_, rfl, .cons rfl (.cons rfl (.cons rfl (.cons rfl .nil)))⟩ .nil)
                · exact true_run (eval_ok tblG_ok mixedS (nat_lit 60)) h2 hr hF (.cons ⟨_, rfl, .cons rfl (.cons rfl (.cons rfl (.cons rfl .nil)))⟩ .nil)
  · cases hv
theorem natVg_ok (F : List Fc) : NatOk Tryz.prog (envR F) 118 (natVg F) := natVg_core F (f := ⟨.x0, .x7, .x6⟩) (by kernel_rfl) (by kernel_rfl)
theorem natVg8_ok (F : List Fc) : NatOk Tryz.prog (envR F) 102 (natVg F) := natVg_core F (f := ⟨.x0, .x6, .x6⟩) (by kernel_rfl) (by kernel_rfl)
theorem entVg (args : Array Value) (w : World) : (callFunc 118 args).run Tryz.prog w = .ok (.enter 118 args) w := enter_run Tryz.func118 (by kernel_rfl) rfl args w
theorem entVg8 (args : Array Value) (w : World) : (callFunc 102 args).run Tryz.prog w = .ok (.enter 102 args) w := enter_run Tryz.func102 (by kernel_rfl) rfl args w
theorem entLV (args : Array Value) (w : World) : (callFunc 52 args).run Tryz.prog w = .ok (.enter 52 args) w := enter_run Tryz.func52 (by kernel_rfl) rfl args w
theorem entRV (args : Array Value) (w : World) : (callFunc 43 args).run Tryz.prog w = .ok (.enter 43 args) w := enter_run Tryz.func43 (by kernel_rfl) rfl args w
theorem entRq (args : Array Value) (w : World) : (callFunc 71 args).run Tryz.prog w = .ok (.enter 71 args) w := enter_run Tryz.func71 (by kernel_rfl) rfl args w
theorem entCF (args : Array Value) (w : World) : (callFunc 60 args).run Tryz.prog w = .ok (.enter 60 args) w := enter_run Tryz.func60 (by kernel_rfl) rfl args w
theorem entBy (args : Array Value) (w : World) : (callFunc 55 args).run Tryz.prog w = .ok (.enter 55 args) w := enter_run Tryz.func55 (by kernel_rfl) rfl args w
noncomputable def tblW (F : List Fc) : Tab := tabOf [(⟨.x0, .x7, .x6⟩, .nat (natVg F)), (⟨.x0, .x6, .x6⟩, .nat (natVg F)), (⟨.x0, .x3, .x4⟩, c52), (⟨.x0, .x2, .xb⟩, c43), (⟨.x0, .x6, .x7⟩, c103), (⟨.x0, .x7, .x7⟩, c119), (⟨.x0, .x7, .x8⟩, c120), (⟨.x0, .xc, .x1⟩, c193), (⟨.x0, .xc, .x2⟩, c194), (⟨.x0, .xf, .xb⟩, c251), (⟨.x0, .xc, .x7⟩, c199)]
theorem tblW_ok (F : List Fc) : TabOk Tryz.prog (envR F) (tblW F) := tab_cons (tab_cons (tab_cons (tab_cons (tab_cons (tab_cons (tab_cons (tab_cons (tab_cons (tab_cons (tab_cons tab_nil e199) e251) e194) e193) e120) e119) e103) e43) e52) (nat_ok entVg8 (natVg8_ok F))) (nat_ok entVg (natVg_ok F))
noncomputable def factsV (L : Nat) : List Fc := .rng (.f1 5 (.v 3)) 0 0 :: factsH (.v 0) 6 L
noncomputable def runV (f : Bid) (L : Nat) : Bool := isTrue (callBy (tblW (factsV L)) (aev Tryz.prog (envR (factsV L)) (tblW (factsV L)) (nat_lit 100)) f [.a [.ds shG (.v (nat_lit 0)), .ds shG (.v (nat_lit 3))]] hp0)
noncomputable def runVs (f : Bid) : Bool := runV f 0 && (runV f 1 && (runV f 2 && (runV f 3 && (runV f 4 && (runV f 5 && (runV f 6 && (runV f 7 && isTrue (callBy (tblW []) (aev Tryz.prog (envR []) (tblW []) (nat_lit 100)) f [.a [.sn, .sn]] hp0))))))))
theorem runsLV : runVs ⟨.x0, .x3, .x4⟩ = true := by kernel_rfl
theorem runsRV : runVs ⟨.x0, .x2, .xb⟩ = true := by kernel_rfl
theorem runVs_at {f : Bid} (h : runVs f = true) : (∀ L, L ≤ 7 → runV f L = true) ∧ isTrue (callBy (tblW []) (aev Tryz.prog (envR []) (tblW []) (nat_lit 100)) f [.a [.sn, .sn]] hp0) = true := by
  unfold runVs at h
  simp only [Bool.and_eq_true] at h
  obtain ⟨h0, h1, h2, h3, h4, h5, h6, h7, h8⟩ := h
  refine ⟨fun L hL => ?_, h8⟩
  match L, hL with
  | 0, _ => exact h0
  | 1, _ => exact h1
  | 2, _ => exact h2
  | 3, _ => exact h3
  | 4, _ => exact h4
  | 5, _ => exact h5
  | 6, _ => exact h6
  | 7, _ => exact h7
  | L + 8, hL => omega
def bH (d wd : List (List DV)) (p m : Int) : Nat → MV
  | 0 => { d := d }
  | 1 => { i := p }
  | 2 => { i := m }
  | _ => { d := wd }
def fdH (F : List Fc) (q : Nm) : Option Nm := match F with
  | [] => none
  | .pr k [q', m] :: l => bif Nat.beq k 11 && decide (q' = q) then some m else fdH l q
  | _ :: l => fdH l q
theorem fdH_ok {ρ : Vn} : ∀ {F : List Fc} {q m : Nm}, (∀ f ∈ F, f.holds QR ρ) → fdH F q = some m → HV (ρ.d q) (ρ.i m)
  | [], q, m, h, e => by cases e
  | f :: l, q, m, h, e => by
    have ih := fun e' => fdH_ok (F := l) (q := q) (m := m) (fun f hf => h f (List.mem_cons_of_mem _ hf)) e'
    unfold fdH at e
    split at e
    · rename_i heq; cases heq
    · rename_i k q' m' l' heq
      cases heq
      cases hd : (Nat.beq k 11 && decide (q' = q)) with
      | false => rw [hd] at e; exact ih e
      | true =>
        rw [hd] at e
        cases e
        rw [Bool.and_eq_true] at hd
        cases Nat.eq_of_beq_eq_true hd.1
        have h2 := of_decide_eq_true hd.2
        subst h2
        exact h _ List.mem_cons_self
    · rename_i heq; cases heq; exact ih e
theorem HV.list {d : List (List DV)} {n : Int} (h : HV d n) : ∃ l : List (Int × Int), d = ofL l ∧ l.Pairwise (fun x y => x.1 < y.1) ∧ (∀ x ∈ l, 0 ≤ x.1 ∧ x.1 < n ∧ 1 ≤ x.2 ∧ x.2 ≤ 2) ∧ (∀ x ∈ l, 0 ≤ x.1 ∧ x.1 ≤ 6 ∧ 1 ≤ x.2 ∧ x.2 ≤ 2) ∧ l.length ≤ 7 := by
  obtain ⟨hn, l, h1, h2, h3⟩ := h
  have h4 := asc_len l 0 n h2 fun x hx => ⟨(h3 x hx).1, (h3 x hx).2.1⟩
  exact ⟨l, h1, h2, h3, fun x hx => by have := h3 x hx; omega, by omega⟩
def zero? (F : List Fc) (q : Nm) : Bool := match knownL F q with
  | some 0 => true
  | _ => false
theorem zero?_ok {F : List Fc} {ρ : Vn} (hs : StdF ρ) (hF : ∀ f ∈ F, f.holds QR ρ) {q : Nm} (e : zero? F q = true) : ρ.d q = [] := by
  unfold zero? at e
  split at e
  · rename_i h; exact List.eq_nil_of_length_eq_zero (knownL_ok hs hF h)
  · cases e
def natLV (F : List Fc) : List AV → Option AV
  | [.a [.ds e q, .ds e' wq]] => bif (decide (e = shG) && decide (e' = shG)) && ((fdH F q).isSome && zero? F wq) then some (.c (.b true)) else none
  | [.a [.sn, .sn]] => some (.c (.b true))
  | _ => none
theorem natLV_core (F : List Fc) {f : Bid} (hf : runVs f = true) : NatOk Tryz.prog (envR F) f.num (natLV F) := by
  intro vs v hv ρ φ h w us he hr hu
  have hp := envR_prop he
  obtain ⟨hruns, hrun0⟩ := runVs_at hf
  unfold natLV at hv
  split at hv
  · rename_i e q e' wq
    cases hb : ((decide (e = shG) && decide (e' = shG)) && ((fdH F q).isSome && zero? F wq)) with
    | false => rw [hb] at hv; cases hv
    | true =>
      rw [hb] at hv
      cases hv
      rw [Bool.and_eq_true, Bool.and_eq_true, Bool.and_eq_true, decide_eq_true_eq, decide_eq_true_eq] at hb
      obtain ⟨⟨rfl, rfl⟩, b3, b4⟩ := hb
      obtain ⟨m, hm⟩ := Option.isSome_iff_exists.1 b3
      obtain ⟨l, hd, hpw, _, hbd, hlen⟩ := (fdH_ok hp.2 hm).list
      have hw := zero?_ok hp.1 hp.2 b4
      cases hu with
      | cons a1 t1 =>
        cases t1
        obtain ⟨xs, rfl, hx⟩ := a1
        cases hx with
        | cons x1 t2 =>
          cases t2 with
          | cons x2 t3 =>
            cases t3
            have hF : ∀ f ∈ factsV l.length, f.holds QR (vb (bH (ρ.d q) (ρ.d wq) 0 0) gIf φ.z) := facts_cons (show (0 : Int) ≤ (((ρ.d wq).length : Nat) : Int) ∧ (((ρ.d wq).length : Nat) : Int) ≤ 0 by rw [hw]; exact ⟨Int.le_refl _, Int.le_refl _⟩) (factsH_ok (vb_std _ _ _) hd hbd (by decide) hpw)
            exact true_run (eval_ok (tblW_ok _) mixedS (nat_lit 100)) (hruns _ hlen) hr hF (.cons ⟨_, rfl, .cons x1 (.cons x2 .nil)⟩ .nil)
  · cases hv
    cases hu with
    | cons a1 t1 =>
      cases t1
      obtain ⟨xs, rfl, hx⟩ := a1
      cases hx with
      | cons x1 t2 =>
        cases t2 with
        | cons x2 t3 =>
          cases t3
          exact true_run (b := bH [] [] 0 0) (g := gIf) (eval_ok (tblW_ok _) mixedS (nat_lit 100)) hrun0 hr facts_nil (.cons ⟨_, rfl, .cons x1 (.cons x2 .nil)⟩ .nil)
  · cases hv
theorem natLV_ok (F : List Fc) : NatOk Tryz.prog (envR F) 52 (natLV F) := natLV_core F runsLV
theorem natRV_ok (F : List Fc) : NatOk Tryz.prog (envR F) 43 (natLV F) := natLV_core F runsRV
noncomputable def natBy (F : List Fc) (call : CallF) (f : Bid) (vs : List AV) (h : Hp) : RO := match vs with
  | [.c (.ds e q), .c (.fn g [] [(id, o)])] => bif zero? F q then call f vs h else
    br (decide (e = shG) && decide (g = ⟨.x0, .x3, .x7⟩)) (ro (fdH F q) fun m => ro (h.lds id o 1) fun l => match m, l with
    | .num m, [.i .i64 n] => br (decide (m ≤ n)) (.ok (.c (.b false)) h)
    | _, _ => .no)
  | _ => call f vs h
theorem natBy_ok {F : List Fc} {call : CallF} (hC : CallOk Tryz.prog (envR F) call) : EntOk Tryz.prog (envR F) ⟨.x0, .x3, .xc⟩ (.natm (natBy F call ⟨.x0, .x3, .xc⟩)) := by
  refine ⟨entCF, ?_⟩
  intro vs v h h' hv ρ φ w us he hr hu
  have hp := envR_prop he
  have hv' : natBy F call ⟨.x0, .x3, .xc⟩ vs h = .ok v h' := hv
  unfold natBy at hv'
  split at hv'
  · rename_i e q g id o
    cases hz : zero? F q with
    | true => rw [hz] at hv'; exact (hC _ _ h v h' hv').2 ρ φ w us he hr hu
    | false =>
      rw [hz] at hv'
      simp only [cond_false] at hv'
      obtain ⟨hb, hv2⟩ := br_ok hv'
      rw [Bool.and_eq_true, decide_eq_true_eq, decide_eq_true_eq] at hb
      obtain ⟨rfl, rfl⟩ := hb
      obtain ⟨m, hm, hv3⟩ := ro_ok hv2
      obtain ⟨cs, hl, hv4⟩ := ro_ok hv3
      split at hv4
      · rename_i m n
        obtain ⟨hb, hv5⟩ := br_ok hv4
        have hmn := of_decide_eq_true hb
        cases hv5
        obtain ⟨l, hd, hpw, hbd, _, hlen⟩ := (fdH_ok hp.2 hm).list
        rw [hp.1.num] at hbd
        cases hu with
        | @cons _ v1 _ _ x1 t1 =>
          cases t1 with
          | cons x2 t2 =>
            cases t2
            have x1' : SlD φ.z shG (ρ.d q) v1 := x1
            obtain ⟨p, cap, rfl, hc, h0⟩ := x1'
            obtain ⟨fs, ys, rfl, f1, f2⟩ := x2
            cases f1
            cases f2 with
            | cons f3 f4 =>
              cases f4
              obtain ⟨bk, base, tot, hφ, rfl⟩ := f3
              obtain ⟨b', base', tot', ws, k1, k2, k3, k4⟩ := hr.lds hl
              rw [show φ id = some (bk, base, tot) from hφ] at k1
              cases k1
              cases k3 with
              | cons k3 k5 =>
                cases k5
                have hcell := k4 0 _ rfl
                rw [Nat.add_zero] at hcell
                cases (show _ = Value.int .i64 n from k3)
                have hlen2 : (ρ.d q).length = l.length := by rw [hd, ofL_len]
                have fin : ∀ (b off : Nat), ((ρ.d q).length = 0 ∨ p = some ⟨b, off, none⟩) → NoG w b off (ρ.d q).length 55 [.pointer (some ⟨bk, base + o, none⟩)] → Calls Tryz.prog 60 #[.slice p (ρ.d q).length cap, .func (.func 55) #[] #[.pointer (some ⟨bk, base + o, none⟩)]] w fun e w' => ∃ u φ', e = .returned u ∧ VV ρ φ' (.c (.b false)) u ∧ Stp ρ φ h w φ' h w' := fun b off ha H => by
                  refine (contains_no w p b off (ρ.d q).length cap (by omega) ha 55 _ H).mono ?_
                  rintro e w' ⟨rfl, bl⟩
                  exact ⟨_, φ, rfl, rfl, hr.keepS bl⟩
                rcases h0 with h0 | ⟨b, off, arr, T, fz, rfl, hzz, hrows⟩
                · exact fin 0 0 (.inl (by rw [h0]; rfl)) ⟨entBy, fun i hi => by rw [h0] at hi; exact absurd hi (Nat.not_lt_zero _)⟩
                · refine fin b off (.inr rfl) ⟨entBy, fun i hi => ?_⟩
                  obtain ⟨x, hx⟩ := list_cases (d := l) (i := i) (by omega)
                  have hrow : (ρ.d q)[i]? = some [.i 1, .i x.1, .i 7, .i x.2] := by rw [hd]; exact ofL_get hx
                  obtain ⟨a, b2, c, d, e1, e2⟩ := rowD_G (hrows i _ hrow)
                  cases e1
                  refine ⟨[.int .i64 1, .int .i64 x.1, .int .i64 7, .int .i64 x.2], rfl, fun j u hj => ?_, fun w' bl => ?_⟩
                  · rw [← e2] at hj
                    have hj4 : j < 4 := by
                      have := (List.getElem?_eq_some_iff.1 hj).1
                      rw [e2] at this
                      exact this
                    rw [List.getElem?_take_of_lt (show j < shG.len from hj4), List.getElem?_drop, Array.getElem?_toList] at hj
                    exact cell_of_frozen (φ := φ) (off := 0) (z := φ.z) hr hzz _ hj
                  · have hxb := hbd x (List.mem_of_getElem? hx)
                    exact beyond_no w' bk (base + o) n 1 x.1 7 x.2 ((Below.cell (p := ⟨bk, base + o, none⟩) bl (block_lt_of_cell (a := ⟨bk, base + o, none⟩) hcell)).trans hcell) (by omega)
      · cases hv4
  · exact (hC _ vs h v h' hv').2 ρ φ w us he hr hu
end Go.Proofs.YtjnfgapfhpihmaaGreat
