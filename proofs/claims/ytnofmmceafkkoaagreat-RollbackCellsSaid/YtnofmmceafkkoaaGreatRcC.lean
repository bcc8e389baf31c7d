/-
  RcP, RcS in one.
-/
import Derived.Test.YtnofmmceafkkoaaGreatRcB
import Derived.Test.YtnofmmceafkkoaaGreatEncQ
import Derived.Test.YtnofmmceafkkoaaGreatNatR
set_option linter.unusedVariables false
set_option linter.unusedSimpArgs false
namespace Go.Proofs.YtnofmmceafkkoaaGreat
open Go.RowKit
def mapV (f : AC → AC) : AV → AV
  | .c x => .c (f x)
  | .a l => .a (l.map f)
  | .t l => .t l
def mapB (f : AC → AC) : AB → AB
  | .cells c => .cells (c.map f)
  | b => b
def Lit.map (f : AC → AC) (s : Lit) : Lit := ⟨s.fr.map fun x => (x.1, x.2.1, mapV f x.2.2), s.mem.map fun x => (x.1, mapB f x.2), s.next⟩
theorem frameL_map (f : AC → AC) (i j : D16) : ∀ l : List (D16 × D16 × AV), getF i j (@List.rec (D16 × D16 × AV) (fun _ => Fr) Fr.nil (fun x _ ih => putF x.1 x.2.1 x.2.2 ih) (l.map fun x => (x.1, x.2.1, mapV f x.2.2))) = (getF i j (@List.rec (D16 × D16 × AV) (fun _ => Fr) Fr.nil (fun x _ ih => putF x.1 x.2.1 x.2.2 ih) l)).map (mapV f)
  | [] => by simp [getF_nil]
  | x :: l => by
    have ih := frameL_map f i j l
    show getF i j (putF x.1 x.2.1 (mapV f x.2.2) _) = (getF i j (putF x.1 x.2.1 x.2.2 _)).map (mapV f)
    by_cases h : i = x.1 ∧ j = x.2.1
    · obtain ⟨rfl, rfl⟩ := h
      rw [getF_putF, getF_putF]; rfl
    · rw [getF_putF_ne h, getF_putF_ne h]; exact ih
theorem memL_map (f : AC → AC) (id : Bid) : ∀ l : List (Bid × AB), get3 (memOf (l.map fun x => (x.1, mapB f x.2))) id = (get3 (memOf l) id).map (mapB f)
  | [] => by
    show get3 bl0 id = (get3 bl0 id).map _
    rw [show get3 bl0 id = none from get3_rep id none]; rfl
  | x :: l => by
    have ih := memL_map f id l
    show get3 (put3 (memOf (l.map fun x => (x.1, mapB f x.2))) x.1 (some (mapB f x.2))) id = (get3 (put3 (memOf l) x.1 (some x.2)) id).map (mapB f)
    by_cases h : id = x.1
    · subst h
      rw [get3_put3, get3_put3]; rfl
    · rw [get3_put3_ne h, get3_put3_ne h]; exact ih
theorem All2.mapL {α β γ : Type} {R : α → β → Prop} {S : γ → β → Prop} {f : α → γ} (h : ∀ x y, R x y → S (f x) y) {l : List α} {m : List β} (a : All2 R l m) : All2 S (l.map f) m := by
  induction a with
  | nil => exact .nil
  | cons h1 _ ih => exact .cons (h _ _ h1) ih
theorem At.map {w0 : World} {N : Nat} {ρ : Vn} {s : Lit} {a : Act} {w : World} (h : At w0 N ρ s a w) {f : AC → AC} (hf : ∀ φ c v, VC ρ φ c v → VC ρ φ (f c) v) : At w0 N ρ (s.map f) a w := by
  obtain ⟨φ, h1, h2, h3, h4, h5⟩ := h
  have hg : ∀ id, (s.map f).hp.get id = (s.hp.get id).map (mapB f) := fun id => memL_map f id s.mem
  have hs : ∀ id, ((s.map f).hp.get id).isSome = (s.hp.get id).isSome := fun id => by rw [hg, Option.isSome_map]
  refine ⟨φ, fun i j v hv => ?_, ⟨⟨fun id c hc => ?_, fun id l hc => ?_, fun id e y hc => ?_, fun i j x y hi hj => h2.inj i j x y (by rw [← hs]; exact hi) (by rw [← hs]; exact hj), fun i hi => h2.low i (by rw [← hs]; exact hi), h2.free⟩, ⟨h2.frz.zin, fun b x hb => ⟨(h2.frz.at_ b x hb).1, fun i y hi => (h2.frz.at_ b x hb).2 i y (by rw [← hs]; exact hi)⟩⟩⟩, ⟨h3.old, h3.size, h3.os, h3.tape, h3.output, fun i x hi => h3.live i x (by rw [← hs]; exact hi)⟩, h4, h5⟩
  · have hv' : (getF i j s.frame).map (mapV f) = some v := (frameL_map f i j s.fr).symm.trans hv
    obtain ⟨u, hu, rfl⟩ := map_some hv'
    obtain ⟨k1, k2⟩ := h1 i j u hu
    refine ⟨k1, ?_⟩
    cases u with
    | c x => exact hf _ _ _ k2
    | a l => obtain ⟨vs, q1, q2⟩ := k2; exact ⟨vs, q1, q2.mapL fun x y hx => hf _ _ _ hx⟩
    | t l => exact k2
  · rw [hg] at hc
    obtain ⟨B, hB, e⟩ := map_some hc
    cases B with
    | cells c0 =>
      cases e
      obtain ⟨b, base, arr, T, k1, k2, k3, k4⟩ := h2.cells id c0 hB
      refine ⟨b, base, arr, T, k1, k2, by rw [List.length_map]; exact k3, fun o x hx => ?_⟩
      rw [List.getElem?_map] at hx
      obtain ⟨y, hy, rfl⟩ := map_some hx
      obtain ⟨v, q1, q2⟩ := k4 o y hy
      exact ⟨v, q1, hf _ _ _ q2⟩
    | map l => cases e
    | row e0 y0 => cases e
  · rw [hg] at hc
    obtain ⟨B, hB, e⟩ := map_some hc
    cases B with
    | cells c0 => cases e
    | map l0 => cases e; exact h2.maps id _ hB
    | row e0 y0 => cases e
  · rw [hg] at hc
    obtain ⟨B, hB, e⟩ := map_some hc
    cases B with
    | cells c0 => cases e
    | map l0 => cases e
    | row e0 y0 => cases e; exact h2.rows id _ _ hB
def subB (t : Nm) (x : Bool) : AC → AC
  | .sb t' => bif decide (t' = t) then .b x else .sb t'
  | c => c
theorem subB_ok {ρ : Vn} {t : Nm} {x : Bool} (h : ρ.b t = x) (φ : Emb) (c : AC) (v : Value) (hv : VC ρ φ c v) : VC ρ φ (subB t x c) v := by
  cases c with
  | sb t' =>
    show VC ρ φ (bif decide (t' = t) then .b x else .sb t') v
    cases hd : decide (t' = t) with
    | true =>
      have := of_decide_eq_true hd
      subst this
      have hv' : v = .bool (ρ.b t') := hv
      rw [h] at hv'
      exact hv'
    | false => exact hv
  | _ => exact hv
def cellsB (F : List Fc) : List AC → Bool
  | b :: d :: l => cellB F b d && cellsB F l
  | [] => true
  | _ => false
def isNo : AC → Bool
  | .b false => true
  | _ => false
theorem isNo_ok {b : AC} (h : isNo b = true) : b = .b false := by
  unfold isNo at h
  split at h
  · rfl
  · cases h
def allNo : List AC → Bool
  | b :: _ :: l => isNo b && allNo l
  | _ => true
theorem cellsB_ok {F : List Fc} {ρ : Vn} (hs : StdF ρ) (hF : ∀ f ∈ F, f.holds QR ρ) {φ : Emb} : ∀ {l : List AC} {vs : List Value}, cellsB F l = true → All2 (VC ρ φ) l vs → ∃ cs : List (Bool × ByteArray), vs = cellVals cs ∧ l.length = 2 * cs.length ∧ (∀ x ∈ cs, VCell x.1 x.2) ∧ (allNo l = true → ∀ x ∈ cs, x.1 = false)
  | [], vs, _, h => by cases h; exact ⟨[], rfl, rfl, by simp, by simp⟩
  | [b], vs, e, h => by cases e
  | b :: d :: l, vs, e, h => by
    have e' : (cellB F b d && cellsB F l) = true := e
    rw [Bool.and_eq_true] at e'
    cases h with
    | cons x1 t1 =>
      cases t1 with
      | cons x2 t2 =>
        obtain ⟨bb, ss, rfl, rfl, hv⟩ := cellB_ok hs hF e'.1 x1 x2
        obtain ⟨cs, rfl, h1, h2, h3⟩ := cellsB_ok hs hF e'.2 t2
        refine ⟨(bb, ss) :: cs, rfl, by simp [h1]; omega, ?_, ?_⟩
        · intro x hx
          rcases List.mem_cons.1 hx with rfl | hx
          · exact hv
          · exact h2 x hx
        · intro ha
          have ha' : (isNo b && allNo l) = true := ha
          rw [Bool.and_eq_true] at ha'
          intro x hx
          rcases List.mem_cons.1 hx with rfl | hx
          · have hb := isNo_ok ha'.1
            subst hb
            cases (show Value.bool bb = .bool false from x1)
            rfl
          · exact h3 ha'.2 x hx
def numIn (F : List Fc) (c : AC) (lo hi : Int) : Bool := match nmI c with
  | some x => isI64 x.1 && (match cmpF F .leq (.num lo) x.2, cmpF F .leq x.2 (.num hi) with | some true, some true => true | _, _ => false)
  | none => false
theorem numIn_ok {F : List Fc} {ρ : Vn} (hs : StdF ρ) (hF : ∀ f ∈ F, f.holds QR ρ) {φ : Emb} {c : AC} {lo hi : Int} (e : numIn F c lo hi = true) {v : Value} (hv : VC ρ φ c v) : ∃ n, v = .int .i64 n ∧ lo ≤ n ∧ n ≤ hi := by
  unfold numIn at e
  split at e
  · rename_i x hx
    rw [Bool.and_eq_true] at e
    obtain ⟨k1, k2⟩ := e
    split at k2
    · rename_i g2 g3
      have e1 := cmpF_ok hs hF g2
      have e2 := cmpF_ok hs hF g3
      rw [hs.num] at e1 e2
      simp only [icmp, Option.some.injEq, decide_eq_true_eq] at e1 e2
      have hv3 := nmI_ok hs.toStdA hx hv
      rw [isI64_eq k1] at hv3
      exact ⟨_, hv3, e1, e2⟩
    · cases k2
  · cases e
def pageB (F : List Fc) (c0 c1 : AC) (l : List AC) : Bool := (numIn F c0 0 63 && (numIn F c1 0 1099511627776 && (numIn F c1 1 1099511627776 || allNo l))) && (Nat.beq l.length 32 && cellsB F l)
theorem pageB_ok {F : List Fc} {ρ : Vn} (hs : StdF ρ) (hF : ∀ f ∈ F, f.holds QR ρ) {φ : Emb} {c0 c1 : AC} {l : List AC} (e : pageB F c0 c1 l = true) {v0 v1 : Value} {vs : List Value} (h0 : VC ρ φ c0 v0) (h1 : VC ρ φ c1 v1) (hl : All2 (VC ρ φ) l vs) :
    ∃ (id lsn : Int) (cs : List (Bool × ByteArray)), v0 :: v1 :: vs = pgLst id lsn cs ∧ 0 ≤ id ∧ id < 64 ∧ 0 ≤ lsn ∧ lsn ≤ 1099511627776 ∧ cs.length = 16 ∧ ∀ x ∈ cs, cellGood lsn x := by
  unfold pageB at e
  simp only [Bool.and_eq_true, Bool.or_eq_true] at e
  obtain ⟨⟨e1, e2, e3⟩, e4, e5⟩ := e
  obtain ⟨id, rfl, a1, a2⟩ := numIn_ok hs hF e1 h0
  obtain ⟨lsn, rfl, b1, b2⟩ := numIn_ok hs hF e2 h1
  obtain ⟨cs, rfl, c1', c2, c3⟩ := cellsB_ok hs hF e5 hl
  have e4' := Nat.eq_of_beq_eq_true e4
  refine ⟨id, lsn, cs, rfl, a1, by omega, b1, b2, by omega, fun x hx => ⟨(c2 x hx).1, (c2 x hx).2, fun ht => ?_⟩⟩
  rcases e3 with e3 | e3
  · obtain ⟨n, hn, g1, g2⟩ := numIn_ok hs hF e3 h1
    cases hn
    omega
  · have := c3 e3 x hx
    rw [this] at ht; cases ht
def natCs (F : List Fc) : List AV → Option AV
  | [.a (c0 :: c1 :: l)] => bif pageB F c0 c1 l then some (.c (.b true)) else none
  | _ => none
theorem natCs_ok (F : List Fc) : NatOk Tryz.prog (envR F) 151 (natCs F) := by
  intro vs v hv ρ φ h w us he hr hu
  have hp : StdF ρ ∧ ∀ f ∈ F, f.holds QR ρ := envR_prop he
  unfold natCs at hv
  split at hv
  · rename_i c0 c1 l
    cases hc : pageB F c0 c1 l with
    | false => rw [hc] at hv; cases hv
    | true =>
      rw [hc] at hv
      cases hv
      cases hu with
      | cons a1 t1 =>
        cases t1
        obtain ⟨xs, rfl, hx⟩ := a1
        cases hx with
        | cons x1 t2 =>
          cases t2 with
          | cons x2 t3 =>
            obtain ⟨id, lsn, cs, e, g1, g2, g3, g4, g5, g6⟩ := pageB_ok hp.1 hp.2 hc x1 x2 t3
            rw [e]
            refine (cells_walk id lsn cs g5 g6 w).mono ?_
            rintro en w' ⟨rfl, b⟩
            exact ⟨_, φ, rfl, rfl, Stp.grow hr b.size b.block b.os b.tape b.output⟩
  · cases hv
end Go.Proofs.YtnofmmceafkkoaaGreat
set_option linter.unusedVariables false
set_option linter.unusedSimpArgs false
namespace Go.Proofs.YtnofmmceafkkoaaGreat
open Go.RowKit
theorem size_mk (l : List UInt8) : (ByteArray.mk l.toArray).size = l.length := by
  show l.toArray.size = _
  exact List.size_toArray ..
theorem size_list (s : ByteArray) : s.data.toList.length = s.size := by
  show _ = s.data.size
  exact Array.length_toList
theorem sz_put {ρ : Vn} (h : PP ρ) (s n : Nm) (k : Int) : (ρ.s (.f2 2001 s (.f2 2002 n (.num k)))).size = (ρ.s s).size + k.toNat := by
  rw [h.put, size_mk, List.length_append, putL_length, size_list]
theorem sz_rep {ρ : Vn} (h : PP ρ) (n : Nm) : (ρ.s (.f1 2003 n)).size = (ρ.i n).toNat := by
  rw [h.rep, size_mk, Lib.repeatL_length]; simp
theorem sz_cat {ρ : Vn} (h : StdF ρ) (s t : Nm) : (ρ.s (.f2 1430 s t)).size = (ρ.s s).size + (ρ.s t).size := by
  rw [h.scat, ByteArray.size_append]
def strLe (F : List Fc) (n : Nat) : AC → Bool
  | .s l => Nat.ble l.length n
  | .ss t => lenLe F t n
  | _ => false
theorem strLe_ok {F : List Fc} {ρ : Vn} (hs : StdF ρ) (hF : ∀ f ∈ F, f.holds QR ρ) {φ : Emb} {n : Nat} {c : AC} (e : strLe F n c = true) {t : Nm} (ht : nmS c = some t) {v : Value} (hv : VC ρ φ c v) : v = .string (ρ.s t) ∧ (ρ.s t).size ≤ n := by
  have hv' := nmS_ok hs.toStdA ht hv
  refine ⟨hv', ?_⟩
  cases c with
  | s l =>
    cases ht
    rw [hs.lit, size_mk, List.length_map]
    exact Nat.le_of_ble_eq_true e
  | ss y =>
    cases ht
    have e' : lenLe F t n = true := e
    unfold lenLe at e'
    split at e'
    · rename_i r hr
      have h1 := (rngF_ok hs hF hr).2
      rw [hs.slen] at h1
      have h2 := of_decide_eq_true e'
      omega
    · cases e'
  | _ => cases ht
def natPutS (F : List Fc) : List AV → Option AV
  | [.c s, .c n, .c (.i .i64 (.ofNat k))] => match nmS s, nmI n with
    | some t, some u => bif strLe F 1000 s && (isI64 u.1 && (Nat.ble 1 k && Nat.ble k 8)) then some (.c (.ss (.f2 2001 t (.f2 2002 u.2 (.num (.ofNat k)))))) else none
    | _, _ => none
  | _ => none
theorem natPutS_ok (F : List Fc) : NatOk Tryz.prog (envR F) 160 (natPutS F) := by
  intro vs v hv ρ φ h w us he hr hu
  have hp := envR_prop he
  unfold natPutS at hv
  split at hv
  · rename_i s n k
    split at hv
    · rename_i t u ht htu
      cases hb : (strLe F 1000 s && (isI64 u.1 && (Nat.ble 1 k && Nat.ble k 8))) with
      | false => rw [hb] at hv; cases hv
      | true =>
        rw [hb] at hv
        cases hv
        simp only [Bool.and_eq_true] at hb
        obtain ⟨b1, b2, b3, b4⟩ := hb
        cases hu with
        | cons a1 t1 =>
          cases t1 with
          | cons a2 t2 =>
            cases t2 with
            | cons a3 t3 =>
              cases t3
              obtain ⟨rfl, hsz⟩ := strLe_ok hp.1 hp.2 b1 ht a1
              have e2 := nmI_ok hp.1.toStdA htu a2
              rw [isI64_eq b2] at e2
              subst e2
              cases (show _ = Value.int .i64 (Int.ofNat k) from a3)
              refine nat_of hr (u := .string ⟨((ρ.s t).data.toList ++ putL (ρ.i u.2) k).toArray⟩) ?_ (put_walk (ρ.s t) (ρ.i u.2) k w (by omega) (Nat.le_of_ble_eq_true b3) (Nat.le_of_ble_eq_true b4))
              show Value.string _ = .string (ρ.s _)
              rw [(envR_pp he).put]
              rfl
    · cases hv
  · cases hv
def natRepS (F : List Fc) : List AV → Option AV
  | [.c (.s [n0]), .c n] => match nmI n with
    | some u => bif Nat.beq n0 0 && numIn F n 0 1000 then some (.c (.ss (.f1 2003 u.2))) else none
    | none => none
  | _ => none
theorem natRepS_ok (F : List Fc) : NatOk Tryz.prog (envR F) 162 (natRepS F) := by
  intro vs v hv ρ φ h w us he hr hu
  have hp := envR_prop he
  unfold natRepS at hv
  split at hv
  · rename_i n0 n
    split at hv
    · rename_i u htu
      cases hb : (Nat.beq n0 0 && numIn F n 0 1000) with
      | false => rw [hb] at hv; cases hv
      | true =>
        rw [hb] at hv
        cases hv
        rw [Bool.and_eq_true] at hb
        cases Nat.eq_of_beq_eq_true hb.1
        cases hu with
        | cons a1 t1 =>
          cases t1 with
          | cons a2 t2 =>
            cases t2
            obtain ⟨y, rfl, hy⟩ := a1
            obtain ⟨m, rfl, m1, m2⟩ := numIn_ok hp.1 hp.2 hb.2 a2
            have e2 := nmI_ok hp.1.toStdA htu a2
            have e3 : m = ρ.i u.2 := by injection e2
            obtain ⟨c, hc⟩ := Int.eq_ofNat_of_zero_le m1
            subst hc
            have hy2 : y = ⟨#[0]⟩ := by
              cases y with | mk a => cases a with | mk q =>
              have hq : q.map UInt8.toNat = [0] := hy
              cases q with
              | nil => cases hq
              | cons x q =>
                cases q with
                | nil =>
                  have : x.toNat = 0 := by simpa using hq
                  have : x = 0 := UInt8.toNat_inj.1 (by simpa using this)
                  rw [this]
                | cons z q => simp at hq
            subst hy2
            refine nat_of hr (u := .string ⟨(Lib.repeatL [0] c).toArray⟩) ?_ (Tryz.strings_Repeat ⟨#[0]⟩ c w (by omega) (by show 1 * c ≤ _; omega))
            show Value.string _ = .string (ρ.s _)
            rw [(envR_pp he).rep, ← e3]
            rfl
    · cases hv
  · cases hv
def natSumS (F : List Fc) : List AV → Option AV
  | [.c (.ss t)] => bif strLe F 1000 (.ss t) then some (.c (.si .u32 (.f1 2004 t))) else none
  | _ => none
theorem natSumS_ok (F : List Fc) : NatOk Tryz.prog (envR F) 163 (natSumS F) := by
  intro vs v hv ρ φ h w us he hr hu
  have hp := envR_prop he
  unfold natSumS at hv
  split at hv
  · rename_i t
    cases hb : strLe F 1000 (.ss t) with
    | false => rw [hb] at hv; cases hv
    | true =>
      rw [hb] at hv
      cases hv
      cases hu with
      | cons a1 t1 =>
        cases t1
        obtain ⟨rfl, hsz⟩ := strLe_ok (φ := φ) hp.1 hp.2 hb rfl a1
        refine nat_of hr (u := .int .u32 (crcF (ρ.s t).data.toList : Nat)) ?_ (sum_walk (ρ.s t) w (by omega))
        show Value.int .u32 _ = .int .u32 (ρ.i _)
        rw [(envR_pp he).sum]
  · cases hv
theorem law_val {P : Program} {f : FuncId} {fn : Func} {ac : ACd} {res : List AR} (hf : P.funcs[f]? = some fn) (hc : cFn P fn = some (.code ac res)) {args : List AV} {us : List Value} {s0 : Lit} (hs : ∃ fr, frameOf args places Fr.nil = some fr ∧ s0.frame = fr) (h0 : s0.hp = hp0)
    {ρ : Vn} (hargs : All2 (VV ρ (Emb.nil ρ.z)) args us) (w : World) (hz : ∀ b x, ρ.z b = some x → w.heap[b]? = some x) {v : AV}
    (ht : Tri P fn.ntmps ac (At w fn.ntmps ρ s0) fun e a w' => e = .ret ∧ ∃ ρ' s' hh, retOf res s'.frame s'.hp = .ok v hh ∧ At w fn.ntmps ρ' s' a w') : Calls P f us.toArray w fun e w' => (∃ u ρ' φ', e = .returned u ∧ VV ρ' φ' v u) ∧ Below w.heap.size w w' := by
  unfold cFn at hc
  cases hb : fn.body with
  | none => rw [hb] at hc; cases hc
  | some c =>
  rw [hb] at hc
  dsimp only at hc
  split at hc
  · rename_i b' r' h1 h2
    cases hc
    obtain ⟨fr, hfr, hsf⟩ := hs
    refine calls_of_wp hf hb ?_
    have hframe : FR ρ (Emb.nil ρ.z) fr (us.toArray ++ Array.replicate (fn.ntmps - us.toArray.size) undef) := by
      refine frame_ok (k := 0) hargs (fun i p hp => by rw [Nat.zero_add]; exact places_tn i p hp) (fun i u hiu => ?_) (fun i j x hx => by rw [getF_nil] at hx; cases hx) hfr
      have hlt := (List.getElem?_eq_some_iff.1 hiu).1
      rw [Nat.zero_add, Array.getElem?_append_left (by simpa using hlt)]
      simpa using hiu
    have hsz : fn.ntmps ≤ (us.toArray ++ Array.replicate (fn.ntmps - us.toArray.size) undef).size := by simp; omega
    refine wp_mono (ht c h1 { tmps := us.toArray ++ Array.replicate (fn.ntmps - us.toArray.size) undef, defers := [] } w ⟨Emb.nil ρ.z, by rw [hsf]; exact hframe, by rw [h0]; exact rel0 ρ w hz, ?_, rfl, hsz⟩) ?_
    · rw [h0]
      exact ⟨fun _ _ => rfl, Nat.le_refl _, rfl, rfl, rfl, fun id x hi => by rw [hp0_get] at hi; cases hi⟩
    · rintro e a' w' ⟨_, rfl, ρ', s', hh, hret, φ', q1, q2, q3, q4, q5⟩
      obtain ⟨rfl, u, q6, q7⟩ := results_ok q1 q2 h2 hret
      exact ⟨q4, u, q6, ⟨u, ρ', φ', rfl, q7⟩, q3.below⟩
  · cases hc
end Go.Proofs.YtnofmmceafkkoaaGreat
