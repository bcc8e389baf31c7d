/-
  Grants under the evaluator: Clone of frozen grants of known number gives a block of the call's own, Insert of one grant into nothing, too.
-/
import Derived.Test.YtjnfgapfhpihmaaGreatSeI
import Derived.Lib.AppendZeros
import Derived.BigCall
set_option linter.unusedVariables false
set_option linter.unusedSimpArgs false
section
namespace Go.Proofs.YtjnfgapfhpihmaaGreat
open Go.RowKit
def shG : Sh := .i .i64 (.i .i64 (.i .i64 (.i .i64 .nil)))
theorem info_grant : ∃ ie z, Tryz.prog.info? 93 = some ie ∧ ie.zero = some z ∧ ie.size = 4 ∧ ie.bytes ≤ 1000 ∧ z.cells.size = 4 := by
  have h2 : (Tryz.prog.info? 93).map (fun i => (i.size, Nat.ble i.bytes 1000, i.zero.map fun z => z.cells.size)) = some (4, true, some 4) := by kernel_rfl
  cases hie : Tryz.prog.info? 93 with
  | none => rw [hie] at h2; cases h2
  | some ie =>
    rw [hie] at h2
    simp at h2
    obtain ⟨h3, h4, z, h5, h6⟩ := h2
    exact ⟨ie, z, rfl, h5, h3, h4, h6⟩
section
variable {ρ : Vn} {φ : Emb} {h : Hp} {w : World}
theorem no_cells (ad : Option Addr) (w : World) : (Builtin.firstCells 4 0 (.slice ad 0 0)).run Tryz.prog w = .ok (([] : List Value).toArray) w := by
  cases ad with
  | none => exact run_firstCells_none w 4 0 0 0
  | some a => exact run_firstCells_some w 4 0 a 0 0 [] (by simp) (fun j u hu => by simp at hu)
theorem app_new (r : Rel ρ φ h w) {n : Nat} {x : Value} {news : List Value} {c : List AC} {nx : Bid} (S : Src Tryz.prog 4 32 x n news w) (h1 : 1 ≤ n) (h2 : n ≤ 8) (hc : All2 (VC ρ φ) c news) (hn : h.next.inc = some nx) (ad : Option Addr) :
    ∃ cap w' φ', (∀ ty, (Builtin.append_ #[32, 32] ty #[.slice ad 0 0, x]).run Tryz.prog w = .ok (.slice (some ⟨w.heap.size, 0, none⟩) n cap) w') ∧ VC ρ φ' (.su h.next 0 n n 4) (.slice (some ⟨w.heap.size, 0, none⟩) n cap) ∧ Stp ρ φ h w φ' (h.more nx (.cells c)) w' := by
  obtain ⟨ie, z, hi, hz, his, hib, hzc⟩ := info_grant
  have G : SrcG Tryz.prog 32 32 93 ie z x n news w := SrcG.of Tryz.underlying32 hi hz (by omega) (by rw [his]; exact S)
  have hb : (0 + n) * ie.bytes ≤ 1048576 := Nat.le_trans (Nat.mul_le_mul (show 0 + n ≤ 8 by omega) hib) (by decide)
  have hg := fun ty => G.grow ty ad 0 0 [] (by rw [his]; exact no_cells ad w.drew) (by omega) (by omega) hb
  have hlen : news.length = n * 4 := S.newsLen
  have hge := grown_ge w (0 + n) 0 93
  simp only [Nat.zero_add, List.nil_append, hzc] at hg hge
  obtain ⟨rest, e1, e2⟩ := hg 0
  refine ⟨grownCap w n 0 93, _, _, fun ty => ?_, ?_, Rel.grown r hn hc rest 93⟩
  · exact e1
  · refine ⟨w.heap.size, 0, _, _, Emb.add_same _ _ _, rfl, Nat.le_refl _, hge, ?_⟩
    rw [hlen, e2, ← Nat.add_mul]
    omega
end
section
variable {ops : Array Oper} {rest : List Oper} {o : Oper} {a : Act} {Q : Exit → Act → World → Prop} {w : World}
theorem wpList_build0 (hw : o.guard = none) (t : TypeId) (ho : o.op = .buildSlice t 0 #[]) {v : Value} {w' : World} (hr : (Instr.buildSlice t 0 #[]).run Tryz.prog w = .ok v w') (h : wpList Tryz.prog ops Q rest (a.put o.dst v) w') : wpList Tryz.prog ops Q (o :: rest) a w :=
  wpList_plain hw fun _ hK => by
    unfold Oper.wp execOp
    simp only [ho, Sem.run_bind, List.map_toArray, List.map_nil, Array.map_empty, hr, Result.andThen_ok, Sem.run_pure]
    exact hK _ _ h
end
theorem build_none (w : World) : (Instr.buildSlice 32 0 #[]).run Tryz.prog w = .ok (.slice (some ⟨w.heap.size, 0, none⟩) 0 0) (w.alloc (.cells #[] 93)) := by
  obtain ⟨ie, z, hi, hz, his, hib, hzc⟩ := info_grant
  have e : (Array.map (fun _ : Nat => (default : Value)) (Array.range 0)) = #[] := Array.eq_empty_of_size_eq_zero (by simp)
  simp [Instr.buildSlice, run_underlying Tryz.underlying32, sizeOf, typeInfo, hi, newRow, Instr.fill, e]
set_option maxHeartbeats 2000000 in
set_option maxRecDepth 100000 in
theorem gclone (ad : Addr) (n cap : Nat) (w : World) {v' : Value} {w2 : World} (hr : ∀ ty, (Builtin.append_ #[32, 32] ty #[.slice (some ⟨w.heap.size, 0, none⟩) 0 0, .slice (some ad) n cap]).run Tryz.prog (w.alloc (.cells #[] 93)) = .ok v' w2) :
    Calls Tryz.prog 199 #[.slice (some ad) n cap] w fun e w' => e = .returned v' ∧ w' = w2 := by
  go_enter Tryz.func199, Tryz.ntmps199
  have hq : ∀ (w : World) (a : Option Addr) (n c : Nat), (binOp .eql 32 (.slice a n c) (.slice none 0 0)).run Tryz.prog w = .ok (.bool a.isNone) w := fun w a n c => Lib.run_eql_slice_nil w _ _ a n c 0 0 Tryz.underlying32
  have HB := Lib.hid (build_none w)
  have HR := Lib.hid hr
  clear hr
  go_wp2_with (first | (refine wpList_build0 rfl 32 rfl HB.out ?_) | (at_builtin; refine Lib.wpList_append_run _ rfl _ _ _ _ rfl _ _ rfl rfl _ _ (HR.out _) ?_))
  go_ret
  exact ⟨rfl, rfl⟩
set_option maxHeartbeats 2000000 in
set_option maxRecDepth 100000 in
theorem gclone_nil (n cap : Nat) (w : World) : Calls Tryz.prog 199 #[.slice none n cap] w fun e w' => e = .returned (.slice none 0 0) ∧ w' = w := by
  go_enter Tryz.func199, Tryz.ntmps199
  have hq : ∀ (w : World) (a : Option Addr) (n c : Nat), (binOp .eql 32 (.slice a n c) (.slice none 0 0)).run Tryz.prog w = .ok (.bool a.isNone) w := fun w a n c => Lib.run_eql_slice_nil w _ _ a n c 0 0 Tryz.underlying32
  go_wp2_with fail
  go_ret
  exact ⟨rfl, rfl⟩
set_option maxHeartbeats 2000000 in
set_option maxRecDepth 100000 in
theorem ginsert0 (ad : Option Addr) (a2 : Addr) (c2 : Nat) (w : World) {v' : Value} {w2 : World} (hr : ∀ ty, (Builtin.append_ #[32, 32] ty #[.slice ad 0 0, .slice (some a2) 1 c2]).run Tryz.prog w = .ok v' w2) :
    Calls Tryz.prog 136 #[.slice ad 0 0, .int .i64 0, .slice (some a2) 1 c2] w fun e w' => e = .returned v' ∧ w' = w2 := by
  go_enter Tryz.func136, Tryz.ntmps136
  obtain ⟨ie, z, hi, hz, his, hib, hzc⟩ := info_grant
  have HI := Lib.hid hi
  have HR := Lib.hid hr
  clear hr hi hz his hib hzc
  cases ad <;>
  · go_wp2_with (at_builtin; refine Lib.wpList_append_run _ rfl _ _ _ _ rfl _ _ rfl rfl _ _ (HR.out _) ?_)
    go_ret
    exact ⟨rfl, rfl⟩
end Go.Proofs.YtjnfgapfhpihmaaGreat
end
section
namespace Go.Proofs.YtjnfgapfhpihmaaGreat
open Go.RowKit
def cellG (F : List Fc) (q : Nm) (i o : Nat) : AC := conF F .i64 (.f2 (Nat.add 100 o) q (.num (.ofNat i)))
def rowG (F : List Fc) (q : Nm) (i : Nat) : List AC := [cellG F q i 0, cellG F q i 1, cellG F q i 2, cellG F q i 3]
noncomputable def rowsG (F : List Fc) (q : Nm) (i k : Nat) : List AC := @Nat.rec (fun _ => Nat → List AC) (fun _ => []) (fun _ ih i => rowG F q i ++ ih (Nat.succ i)) k i
def knownL (F : List Fc) (q : Nm) : Option Nat := match rngF F (lenN F q) with
  | some (.ofNat a, .ofNat b) => bif Nat.beq a b then some a else none
  | _ => none
theorem rowD_G {z : Nat → Option Obj} {row : List DV} {vs : List Value} (h : RowD z shG row vs) : ∃ a b c d, row = [.i a, .i b, .i c, .i d] ∧ vs = [.int .i64 a, .int .i64 b, .int .i64 c, .int .i64 d] := by
  obtain ⟨a, l1, v1, rfl, rfl, b, l2, v2, rfl, rfl, c, l3, v3, rfl, rfl, d, l4, v4, rfl, rfl, rfl, rfl⟩ := h
  exact ⟨a, b, c, d, rfl, rfl⟩
theorem mkD_G (z : Nat → Option Obj) (a b c d : Int) : RowD z shG [.i a, .i b, .i c, .i d] [.int .i64 a, .int .i64 b, .int .i64 c, .int .i64 d] := ⟨a, _, _, rfl, rfl, b, _, _, rfl, rfl, c, _, _, rfl, rfl, d, _, _, rfl, rfl, rfl, rfl⟩
section
variable {F : List Fc} {ρ : Vn} {φ : Emb}
theorem knownL_ok (hs : StdF ρ) (hF : ∀ f ∈ F, f.holds QR ρ) {q : Nm} {L : Nat} (e : knownL F q = some L) : (ρ.d q).length = L := by
  unfold knownL at e
  split at e
  · rename_i a b hr
    have h1 := rngF_ok hs hF hr
    rw [lenN_ok hs hF] at h1
    cases hb : Nat.beq a b with
    | false => rw [hb] at e; cases e
    | true =>
      rw [hb] at e
      cases e
      cases Nat.eq_of_beq_eq_true hb
      have h2 : ((L : Nat) : Int) ≤ ((ρ.d q).length : Int) ∧ ((ρ.d q).length : Int) ≤ ((L : Nat) : Int) := h1
      omega
  · cases e
theorem cellG_ok (hs : StdF ρ) (hF : ∀ f ∈ F, f.holds QR ρ) {q : Nm} {i o : Nat} {row : List DV} {n : Int} (hr : (ρ.d q)[i]? = some row) (ho : o < 900) (hn : row[o]? = some (.i n)) : VC ρ φ (cellG F q i o) (.int .i64 n) := by
  have h1 := conF_ok (φ := φ) hs hF .i64 (.f2 (Nat.add 100 o) q (.num (.ofNat i)))
  have h2 : ρ.i (.f2 (Nat.add 100 o) q (.num (.ofNat i))) = n := by
    have := hs.ci o q (.num (.ofNat i)) ho
    rw [hs.num, show ((Int.ofNat i : Int)) = ((i : Nat) : Int) from rfl, cell_row hr, hn] at this
    exact this
  rw [h2] at h1
  exact h1
theorem rowsG_ok (hs : StdF ρ) (hF : ∀ f ∈ F, f.holds QR ρ) {z : Nat → Option Obj} {q : Nm} : ∀ (k i : Nat) (l : List Value), l.length = k * 4 → i + k ≤ (ρ.d q).length → (∀ j row, j < k → (ρ.d q)[i + j]? = some row → RowD z shG row ((l.drop (j * 4)).take 4)) → All2 (VC ρ φ) (rowsG F q i k) l
  | 0, i, l, hl, hk, hr => by
    have : l = [] := List.eq_nil_of_length_eq_zero (by omega)
    subst this
    exact .nil
  | k + 1, i, l, hl, hk, hr => by
    obtain ⟨row, hrow⟩ := list_cases (d := ρ.d q) (i := i) (by omega)
    obtain ⟨a, b, c, d, rfl, e⟩ := rowD_G (hr 0 row (by omega) hrow)
    rw [Nat.zero_mul, List.drop_zero] at e
    have hl' : l = l.take 4 ++ l.drop 4 := (List.take_append_drop 4 l).symm
    rw [hl', e]
    show All2 (VC ρ φ) (rowG F q i ++ rowsG F q (i + 1) k) _
    refine All2.append (.cons (cellG_ok hs hF hrow (by decide) rfl) (.cons (cellG_ok hs hF hrow (by decide) rfl) (.cons (cellG_ok hs hF hrow (by decide) rfl) (.cons (cellG_ok hs hF hrow (by decide) rfl) .nil)))) (rowsG_ok hs hF (z := z) k (i + 1) _ (by rw [List.length_drop]; omega) (by omega) fun j row' hj hr' => ?_)
    rw [List.drop_drop, show 4 + j * 4 = (j + 1) * 4 by omega]
    exact hr (j + 1) row' (by omega) (by rw [show i + (j + 1) = i + 1 + j by omega]; exact hr')
end
noncomputable def clG (F : List Fc) (q : Nm) (L : Nat) (h : Hp) : RO := @Nat.rec (fun _ => RO) (.ok (.c (.dc shG nmNil)) h) (fun k _ => new h (.cells (rowsG F q 0 (Nat.succ k))) fun id => .c (.su id 0 (Nat.succ k) (Nat.succ k) 4)) L
noncomputable def natClG (F : List Fc) (call : CallF) (f : Bid) (vs : List AV) (h : Hp) : RO := match vs with
  | [.c (.ds e q)] => ro (knownL F q) fun L => br (decide (e = shG) && Nat.ble L 8) (clG F q L h)
  | _ => call f vs h
theorem natClG_ok {F : List Fc} {call : CallF} (hC : CallOk Tryz.prog (envR F) call) : EntOk Tryz.prog (envR F) ⟨.x0, .xc, .x7⟩ (.natm (natClG F call ⟨.x0, .xc, .x7⟩)) := by
  refine ⟨fun args w => enter_run Tryz.func199 (by kernel_rfl) rfl args w, ?_⟩
  intro vs v h h' hv ρ φ w us he hr hu
  have hp := envR_prop he
  have hv' : natClG F call ⟨.x0, .xc, .x7⟩ vs h = .ok v h' := hv
  unfold natClG at hv'
  split at hv'
  · rename_i e q
    obtain ⟨L, hL, hv2⟩ := ro_ok hv'
    obtain ⟨hb, hv3⟩ := br_ok hv2
    rw [Bool.and_eq_true, decide_eq_true_eq] at hb
    obtain ⟨rfl, hb2⟩ := hb
    have hb2 := Nat.le_of_ble_eq_true hb2
    have hlen := knownL_ok hp.1 hp.2 hL
    cases hu with
    | @cons _ v1 _ _ x1 t1 =>
      cases t1
      have x1' : SlD φ.z shG (ρ.d q) v1 := x1
      have x2 := x1'
      obtain ⟨p, cap, rfl, hc, h0⟩ := x1'
      have B : Below w.heap.size w (w.alloc (.cells #[] 93)) := (Below.refl _ w).alloc (Nat.le_refl _) _
      have r1 := hr.keepS B
      obtain ⟨news, S, hnews⟩ := SlD.src (P := Tryz.prog) (tx := 32) (by decide) r1.rel x2 (.inl ⟨_, Tryz.underlying32⟩)
      cases L with
      | zero =>
        cases hv3
        rw [hlen] at S ⊢
        cases p with
        | none =>
          refine (gclone_nil _ _ w).mono ?_
          rintro en w' ⟨rfl, rfl⟩
          exact ⟨_, φ, rfl, ⟨⟨none, 0, by rw [show ρ.d nmNil = [] from hp.1.nil]; rfl, by rw [show ρ.d nmNil = [] from hp.1.nil]; exact Nat.le_refl _, .inl hp.1.nil⟩, none, 0, rfl⟩, Stp.refl hr⟩
        | some ad =>
          obtain ⟨ie, z, hi, hz, his, hib, hzc⟩ := info_grant
          have G : SrcG Tryz.prog 32 32 93 ie z (.slice (some ad) 0 cap) 0 news (w.alloc (.cells #[] 93)) := SrcG.of Tryz.underlying32 hi hz (by omega) (by rw [his]; exact S)
          have hnn : news = [] := List.eq_nil_of_length_eq_zero (by rw [S.newsLen]; rfl)
          subst hnn
          have hrun := fun ty => G.room ty (some ⟨w.heap.size, 0, none⟩) 0 0 (w.alloc (.cells #[] 93)) (by omega) (by simp [storeCells])
          refine (gclone ad _ cap w hrun).mono ?_
          rintro en w' ⟨rfl, rfl⟩
          refine ⟨_, φ, rfl, ⟨⟨some ⟨w.heap.size, 0, none⟩, 0, ?_, ?_, .inl hp.1.nil⟩, some ⟨w.heap.size, 0, none⟩, 0, rfl⟩, r1⟩
          · rw [show ρ.d nmNil = [] from hp.1.nil]; rfl
          · rw [show ρ.d nmNil = [] from hp.1.nil]; exact Nat.le_refl _
      | succ k =>
        obtain ⟨n, hn, rfl, rfl⟩ := new_ok (show new h (.cells (rowsG F q 0 (k + 1))) (fun id => .c (.su id 0 (k + 1) (k + 1) 4)) = RO.ok v h' from hv3)
        rcases h0 with h0 | ⟨b, off, arr, T, fz, rfl, hz, hcell⟩
        · rw [h0] at hlen; cases hlen
        · rw [hlen] at S ⊢
          have hall : All2 (VC ρ φ) (rowsG F q 0 (k + 1)) news := rowsG_ok hp.1 hp.2 (z := φ.z) (k + 1) 0 news S.newsLen (by omega) fun j row hj hrow => by
            rw [Nat.zero_add] at hrow
            exact hnews j row hrow
          obtain ⟨cp, w2, φ', hrun, hvc, hst⟩ := app_new r1.rel S (by omega) hb2 hall hn (some ⟨w.heap.size, 0, none⟩)
          refine (gclone ⟨b, off, none⟩ _ cap w hrun).mono ?_
          rintro en w' ⟨rfl, rfl⟩
          refine ⟨_, φ', rfl, ?_, ?_⟩
          · exact hvc
          · exact r1.trans hst
  · exact (hC _ vs h v h' hv').2 ρ φ w us he hr hu
noncomputable def natInG (g : List AV → Hp → RO) (vs : List AV) (h : Hp) : RO := match vs with
  | [.c (.dc e y), .c i, .c x] => br (decide (e = shG) && (decide (y = nmNil) && decide (i = .i .i64 (.ofNat 0)))) (ro (h.row 4 x) fun r => br (Nat.beq r.1 1) (new h (.cells r.2) fun id => .c (.su id 0 1 1 4)))
  | _ => g vs h
theorem natInG_ok {F : List Fc} {g : List AV → Hp → RO} (hg : EntOk Tryz.prog (envR F) ⟨.x0, .x8, .x8⟩ (.natm g)) : EntOk Tryz.prog (envR F) ⟨.x0, .x8, .x8⟩ (.natm (natInG g)) := by
  refine ⟨hg.1, ?_⟩
  intro vs v h h' hv ρ φ w us he hr hu
  have hp := envR_prop he
  have hv' : natInG g vs h = .ok v h' := hv
  unfold natInG at hv'
  split at hv'
  · rename_i e y i x
    obtain ⟨hb, hv2⟩ := br_ok hv'
    rw [Bool.and_eq_true, Bool.and_eq_true, decide_eq_true_eq, decide_eq_true_eq, decide_eq_true_eq] at hb
    obtain ⟨rfl, rfl, rfl⟩ := hb
    obtain ⟨⟨n, cs⟩, hrow, hv3⟩ := ro_ok hv2
    obtain ⟨hb, hv4⟩ := br_ok hv3
    cases Nat.eq_of_beq_eq_true hb
    obtain ⟨nx, hn, rfl, rfl⟩ := new_ok hv4
    cases hu with
    | @cons _ v1 _ _ x1 t1 =>
      cases t1 with
      | @cons _ v2 _ _ x2 t2 =>
        cases t2 with
        | @cons _ v3 _ _ x3 t3 =>
          cases t3
          obtain ⟨⟨p, cap, hv1, hc, h0⟩, p', m, e1⟩ := x1
          rw [show ρ.d nmNil = [] from hp.1.nil] at hv1
          rw [hv1] at e1
          cases e1
          subst hv1
          cases (show v2 = Value.int .i64 0 from x2)
          obtain ⟨news, S, hall⟩ := row_ok (P := Tryz.prog) (tx := 32) hr x3 hrow (.inl ⟨_, Tryz.underlying32⟩)
          obtain ⟨cp, w2, φ', hrun, hvc, hst⟩ := app_new (n := 1) hr S (by decide) (by decide) hall hn p
          have hs3 : ∃ a2 c2, v3 = .slice (some a2) 1 c2 := by
            cases x with
            | sn => cases hrow
            | sl id off len c => obtain ⟨b, base, tot, _, rfl⟩ := x3; obtain ⟨l, _, e⟩ := ob_some (show ob _ _ = some (1, cs) from hrow); cases e; exact ⟨_, _, rfl⟩
            | su id off len lb es => obtain ⟨b, base, tot, c, _, rfl, _⟩ := x3; obtain ⟨_, e⟩ := bo_some (show bo _ _ = some (1, cs) from hrow); obtain ⟨l, _, e⟩ := ob_some e; cases e; exact ⟨_, _, rfl⟩
            | se id es => cases hrow
            | s l => exact absurd (show (none : Option (Nat × List AC)) = some (1, cs) from hrow) (by simp)
            | _ => cases hrow
          obtain ⟨a2, c2, rfl⟩ := hs3
          refine (ginsert0 p a2 c2 w hrun).mono ?_
          rintro en w' ⟨rfl, rfl⟩
          exact ⟨_, φ', rfl, hvc, hst⟩
  · exact hg.2 vs v h h' hv' ρ φ w us he hr hu
end Go.Proofs.YtjnfgapfhpihmaaGreat
end
