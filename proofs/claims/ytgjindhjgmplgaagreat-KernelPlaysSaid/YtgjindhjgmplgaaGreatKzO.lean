/-
  KernelPlays: the contract of page.Encode.
-/
import Derived.Test.YtgjindhjgmplgaaGreatKzM
import Derived.Test.YtgjindhjgmplgaaGreatCod
import Derived.WalkKit
import Derived.BigCall
import Derived.Below
import Derived.Laws.BitsAllLaws
set_option linter.unusedVariables false
set_option linter.unusedSimpArgs false
section
set_option maxRecDepth 100000
namespace Go.Proofs.YtgjindhjgmplgaaGreat
open Go.RowKit
open Wp
theorem MR.nil (w : World) : MR ⟨w, fun _ => False, fun _ => none⟩ (fun _ => none) (fun _ => none) [] w :=
  ⟨fun x B hx => (by cases hx), fun x y b h1 _ => (by obtain ⟨⟨B, hB, _⟩, _⟩ := h1; cases hB), fun x b h1 => (by obtain ⟨⟨B, hB, _⟩, _⟩ := h1; cases hB), fun x b h1 => (by obtain ⟨⟨B, hB, _⟩, _⟩ := h1; cases hB), fun b o h => (by cases h), .refl _, fun b o h => (by cases h), fun b _ _ => rfl, Nat.le_refl _, rfl, rfl, rfl⟩
theorem run_plain {P : Program} {call : CallF} (hC : CallOk P call) {lp : Lp} {fz : Bool} {f : Nat} {vs : List V} {Q : V → Prop} (h : dbody P call lp fz f vs [] 0 fun v _ _ => Q v) (w : World) {us : List Value} (hus : All2 (VR (fun _ => none) fun _ => none) vs us) :
    Calls P f us.toArray w fun e w' => ∃ v u φ' z', e = .returned u ∧ Q v ∧ VR φ' z' v u ∧ Below w.heap.size w w' := by
  refine (dbody_ok hC h _ _ _ w us (MR.nil w) (fun x v h => by cases h) hus).mono ?_
  rintro e w' ⟨v, m', nx', φ', z', u, h1, h2, h3, h4, h5, h6, h7, h8⟩
  exact ⟨v, u, φ', z', h1, h2, h8, h5.os, h5.tape, h5.output, h5.size, fun k hk => h5.old k hk fun h => h⟩
theorem ct_below {P : Program} {T : Ct} (hT : CtOk P T) {f : Nat} {g : List Row → (V → Prop) → Prop} (h : ∀ rs k (φ : Emb) (z : Fz) us w, g rs k → All2 (VR φ z) (argVs (psF P f) rs) us → Calls P f us.toArray w fun e w' => ∃ v u, e = .returned u ∧ k v ∧ VR φ z v u ∧ Below w.heap.size w w') : CtOk P ((f, ctF (psF P f) g) :: T) := by
  refine hT.cons fun vs E nx k hk => ?_
  unfold ctF at hk
  split at hk
  · split at hk
    · rename_i rs hrs
      intro G φ z w us hm hlt hus
      refine (h rs _ φ z us w hk (argRows_ok hrs hus)).mono ?_
      rintro e w' ⟨v, u, rfl, h1, h2, h3⟩
      exact ⟨v, [], 0, φ, z, u, rfl, h1, fun _ _ h => h, .refl z, hm.still h3.size h3.block h3.os h3.tape h3.output, Dom.refl _ _, Nat.le_refl _, h2⟩
    · exact hk.elim
  · exact hk.elim
def crcT : List Int := [0, 274646895, 549293790, 820201905, 1098587580, 1361435347, 1640403810, 1905808397, 2197175160, 2460548119, 2722870694, 2987750089, 3280807620, 3553878443, 3811616794, 4084100981]
abbrev z16 : Array Value := #[Value.int .u32 0, .int .u32 0, .int .u32 0, .int .u32 0, .int .u32 0, .int .u32 0, .int .u32 0, .int .u32 0, .int .u32 0, .int .u32 0, .int .u32 0, .int .u32 0, .int .u32 0, .int .u32 0, .int .u32 0, .int .u32 0]
theorem ints_row {z : Fz} {k : IntKind} : ∀ {l : List Int} {vs : List Value}, RowD z (List.replicate l.length (.i k)) (l.map DV.i) vs → vs = l.map fun n => Value.int k n
  | [], vs, h => h.2
  | n :: l, vs, h => by
    have h : ∃ d r' v vs', DV.i n :: l.map DV.i = d :: r' ∧ vs = v :: vs' ∧ CellD z (.i k) d v ∧ RowD z (List.replicate l.length (.i k)) r' vs' := by
      simpa only [RowD, List.length_cons, List.replicate_succ, List.map_cons] using h
    obtain ⟨d, r', v, vs', h1, rfl, h2, h3⟩ := h
    cases h1
    simp only [CellD] at h2
    obtain ⟨m, e, rfl⟩ := h2
    cases e
    rw [ints_row h3]
    rfl
abbrev remL : Lp := [(4, .u 40), (8, .u 40)]
theorem rem_run0 (k : KVk) : dbody Tryz.prog (dcall Tryz.prog [] (fun _ => []) 5) remL false 224 [] [] 0 k = k (.r (List.replicate crcT.length (.i .u32)) (crcT.map DV.i)) [] 0 := by kernel_rfl
theorem remainders_walk (w : World) : Calls Tryz.prog 224 #[] w fun e w' => e = .returned (.agg (crcT.map fun n => Value.int .u32 n).toArray) ∧ Below w.heap.size w w' := by
  refine (run_plain (Q := fun v => v = .r (List.replicate crcT.length (.i .u32)) (crcT.map DV.i)) (dcall_ok (T := []) (fun f g h => by cases h) (LT := fun _ => []) 5) (lp := remL) (fz := false) (by rw [rem_run0]) w .nil).mono ?_
  rintro e w' ⟨v, u, φ', z', rfl, rfl, ⟨cs, rfl, h⟩, h2⟩
  refine ⟨?_, h2⟩
  rw [← ints_row h]
def crcN (i : Nat) : Nat := (crcT.getD i 0).toNat
theorem crcN_ok : ∀ i, i < 16 → crcT.getD i 0 = (crcN i : Int) ∧ crcN i < 4294967296 := by decide
def crc1 (x : Nat) : Nat := (x / 16) ^^^ crcN (x &&& 15)
def crcStep (x b : Nat) : Nat := crc1 (crc1 (x ^^^ b))
def crcL (x : Nat) : List UInt8 → Nat
  | [] => x
  | b :: l => crcL (crcStep x b.toNat) l
def crcF (l : List UInt8) : Nat := 4294967295 ^^^ crcL 4294967295 l
theorem xor_lt {a b : Nat} (ha : a < 4294967296) (hb : b < 4294967296) : a ^^^ b < 4294967296 := Nat.xor_lt_two_pow (n := 32) ha hb
theorem crc1_lt {x : Nat} (hx : x < 4294967296) : crc1 x < 4294967296 := xor_lt (by omega) (crcN_ok _ (Nat.and_lt_two_pow (n := 4) _ (by omega))).2
theorem crcL_append : ∀ (l m : List UInt8) (x : Nat), crcL x (l ++ m) = crcL (crcL x l) m
  | [], m, x => rfl
  | b :: l, m, x => crcL_append l m _
set_option maxHeartbeats 4000000 in
set_option maxRecDepth 1000000 in
theorem sum_walk (s : ByteArray) (w : World) (hs : s.size ≤ 1048576) :
    Calls Tryz.prog 192 #[.string s] w fun e w' => e = .returned (.int .u32 (crcF s.data.toList : Nat)) ∧ Below w.heap.size w w' := by
  go_enter Tryz.func192, Tryz.ntmps192
  go_wp2_with (go_at_call 224; refine (remainders_walk _).mono ?_)
  rintro e w1 ⟨rfl, b1⟩
  go_wp2
  have hst := run_storeCells_at (P := Tryz.prog) w1.heap.size 0 268 (crcT.map fun n => Value.int .u32 n) 0 _ (w1.alloc (.cells z16 268)) (MapKept.heap_alloc w1 _).1 (by decide) (by decide)
  rw [hst]
  simp only [Result.andThen]
  rw [Oper.upon_skip]
  have hheap := setRow_heap (w1.alloc (.cells z16 268)) w1.heap.size _ (crcT.map fun n => Value.int .u32 n).toArray 268 (0, 0) (MapKept.heap_alloc w1 _).1
  have hbel : Below w.heap.size w ((w1.alloc (.cells z16 268)).setRow w1.heap.size (crcT.map fun n => Value.int .u32 n).toArray) := by
    have h := b1.alloc b1.size (.cells z16 268)
    refine ⟨h.os, h.tape, h.output, by have := h.size; simp at this ⊢; omega, fun k hk => ?_⟩
    rw [setRow_other _ _ _ _ (by have := b1.size; omega)]
    exact h.block k hk
  clear hst
  have hrw : (List.take (0 + 0) (Array.toList z16) ++ (crcT.map fun n => Value.int .u32 n) ++ List.drop (0 + 0 + (crcT.map fun n => Value.int .u32 n).length) (Array.toList z16)) = crcT.map fun n => Value.int .u32 n := by rfl
  rw [hrw]
  clear hrw
  generalize World.setRow _ _ _ = w2 at hheap hbel ⊢
  have hcell : ∀ (k : Nat), k < 16 → w2.cell? ⟨w1.heap.size, k, none⟩ = some (.int .u32 (crcT.getD k 0)) := by
    intro k hk
    rw [cell_of_row w2 _ k _ _ _ hheap]
    rw [List.getElem?_toArray, List.getElem?_map]
    have hk' : k < crcT.length := hk
    simp [List.getD, List.getElem?_eq_getElem hk']
  go_wp2
  go_loop [4, 9] (fun r i => ∃ (j x : Nat), j ≤ s.size ∧ i = .int .i64 j ∧ r = .int .u32 x ∧ x < 4294967296 ∧ Hid (x = crcL 4294967295 (s.data.toList.take j))) (fun _ i => s.size - (intOf i).toNat)
  case atStart => exact ⟨0, 4294967295, by omega, rfl, rfl, by omega, rfl⟩
  case round =>
    obtain ⟨j, x, hj, rfl, rfl, hx1, hxe⟩ := hrel
    by_cases hlt : (j : Int) < s.size
    · have hjs : j < s.size := by omega
      have hb : s[j].toNat < 256 := s[j].toNat_lt
      have e1 : bits .xor .u32 (x : Int) (s[j].toNat : Int) = ((x ^^^ s[j].toNat : Nat) : Int) := u32_xor_nat x _ hx1 (by omega)
      have h1 : x ^^^ s[j].toNat < 4294967296 := xor_lt hx1 (by omega)
      have hd1 : Hid (crcStep x s[j].toNat = crc1 (crc1 (x ^^^ s[j].toNat))) := rfl
      generalize hr1 : x ^^^ s[j].toNat = r1 at e1 h1 hd1
      have e2 : bits .and .u32 (r1 : Int) 15 = ((r1 &&& 15 : Nat) : Int) := u32_and_nat r1 15 h1 (by decide)
      have h2 : r1 &&& 15 < 16 := Nat.and_lt_two_pow (n := 4) _ (by omega)
      have c1 := hcell _ h2
      rw [(crcN_ok _ h2).1] at c1
      have h3 := (crcN_ok _ h2).2
      have e3 : bits .xor .u32 ((r1 : Int) / 16) (crcN (r1 &&& 15) : Int) = ((crc1 r1 : Nat) : Int) := by
        rw [show (r1 : Int) / 16 = ((r1 / 16 : Nat) : Int) from by omega]
        exact u32_xor_nat _ _ (by omega) h3
      have h4 := crc1_lt h1
      generalize hr2 : crc1 r1 = r2 at e3 h4 hd1
      generalize hi1 : r1 &&& 15 = i1 at e2 h2 c1 h3 e3
      generalize crcN i1 = t1 at c1 h3 e3
      have e4 : bits .and .u32 (r2 : Int) 15 = ((r2 &&& 15 : Nat) : Int) := u32_and_nat r2 15 h4 (by decide)
      have h5 : r2 &&& 15 < 16 := Nat.and_lt_two_pow (n := 4) _ (by omega)
      have c2 := hcell _ h5
      rw [(crcN_ok _ h5).1] at c2
      have h6 := (crcN_ok _ h5).2
      have e5 : bits .xor .u32 ((r2 : Int) / 16) (crcN (r2 &&& 15) : Int) = ((crc1 r2 : Nat) : Int) := by
        rw [show (r2 : Int) / 16 = ((r2 / 16 : Nat) : Int) from by omega]
        exact u32_xor_nat _ _ (by omega) h6
      have h7 := crc1_lt h4
      generalize hr3 : crc1 r2 = r3 at e5 h7 hd1
      generalize hi2 : r2 &&& 15 = i2 at e4 h5 c2 h6 e5
      generalize crcN i2 = t2 at c2 h6 e5
      clear hr1 hr2 hr3 hi1 hi2 hcell
      go_wp2
      go_round
      case rel =>
        refine ⟨j + 1, r3, by omega, by go_num, by go_num, h7, ?_⟩
        show r3 = crcL 4294967295 (s.data.toList.take (j + 1))
        have hlen : j < s.data.toList.length := by simpa using hjs
        rw [List.take_add_one, List.getElem?_eq_getElem hlen, crcL_append, ← show x = crcL 4294967295 (s.data.toList.take j) from hxe]
        exact (show crcStep x s[j].toNat = r3 from hd1).symm
      case measure => simp [intOf]; omega
    · have hjk : j = s.size := by omega
      subst hjk
      go_wp2
      go_ret
      refine ⟨?_, hbel⟩
      have hm : bits .xor .u32 IntKind.u32.max (x : Int) = ((4294967295 ^^^ x : Nat) : Int) := u32_xor_nat 4294967295 x (by decide) hx1
      rw [hm]
      have hx : x = crcL 4294967295 s.data.toList := by
        have h := show x = crcL 4294967295 (s.data.toList.take s.size) from hxe
        rwa [List.take_of_length_le (by simp)] at h
      rw [hx]
      rfl
structure PutV (s : ByteArray) (z : Int) : Prop where
  hs : s.size ≤ 1048576
  k1 : 1 ≤ z
  k8 : z ≤ 8
structure RepV (s : ByteArray) (z : Int) : Prop where
  hs : s.size ≤ 1024
  k0 : 0 ≤ z
  k1 : z ≤ 1024
structure SumV (s : ByteArray) : Prop where
  hs : s.size ≤ 1048576
def gPut (rs : List Row) (k : V → Prop) : Prop := ∃ (s : ByteArray) (n z : Int), PutV s z ∧ rs = [[.s s], [.i n], [.i z]] ∧ ∀ s' : ByteArray, ssz s' = xadd (ssz s) z → k (.c (.s s'))
def gRep (rs : List Row) (k : V → Prop) : Prop := ∃ (s : ByteArray) (z : Int), RepV s z ∧ rs = [[.s s], [.i z]] ∧ ∀ s' : ByteArray, ssz s' = xmul (ssz s) z → k (.c (.s s'))
def gSum (rs : List Row) (k : V → Prop) : Prop := ∃ s : ByteArray, SumV s ∧ rs = [[.s s]] ∧ ∀ n : Nat, k (.c (.i .u32 (Int.ofNat n)))
def TPut : Ct := (189, ctF (psF Tryz.prog 189) gPut) :: T72
def TRep : Ct := (191, ctF (psF Tryz.prog 191) gRep) :: TPut
def TSum : Ct := (192, ctF (psF Tryz.prog 192) gSum) :: TRep
theorem psPut : psF Tryz.prog 189 = [(false, [.s]), (false, [.i .i64]), (false, [.i .i64])] := by kernel_rfl
theorem psRep : psF Tryz.prog 191 = [(false, [.s]), (false, [.i .i64])] := by kernel_rfl
theorem psSum : psF Tryz.prog 192 = [(false, [.s])] := by kernel_rfl
theorem okPut : CtOk Tryz.prog TPut := by
  refine ct_below ok72 fun rs k φ z us w h hus => ?_
  obtain ⟨s, n, x, hv, rfl, hk⟩ := h
  rw [psPut] at hus
  cases hus with
  | cons a1 t1 =>
    cases t1 with
    | cons a2 t2 =>
      cases t2 with
      | cons a3 t3 =>
        cases t3
        cases (show _ = Value.string s from a1)
        cases (show _ = Value.int .i64 n from a2)
        cases (show _ = Value.int .i64 x from a3)
        have h1 := hv.k1
        have h8 := hv.k8
        obtain ⟨m, rfl⟩ : ∃ m : Nat, x = m := ⟨x.toNat, by omega⟩
        refine (put_walk s n m w hv.hs (by omega) (by omega)).mono ?_
        rintro e w' ⟨rfl, hb⟩
        refine ⟨_, _, rfl, hk ⟨(s.data.toList ++ putL n m).toArray⟩ ?_, rfl, hb⟩
        show (((s.data.toList ++ putL n m).toArray.size : Nat) : Int) = (s.size : Int) + m
        have : s.data.toList.length = s.size := by simp
        simp [putL_length]
theorem repL_len (l : List UInt8) : ∀ c, (Lib.repeatL l c).length = l.length * c
  | 0 => rfl
  | c + 1 => by simp [Lib.repeatL, repL_len l c, Nat.mul_add, Nat.add_comm]
theorem okRep : CtOk Tryz.prog TRep := by
  refine ct_below okPut fun rs k φ z us w h hus => ?_
  obtain ⟨s, x, hv, rfl, hk⟩ := h
  rw [psRep] at hus
  cases hus with
  | cons a1 t1 =>
    cases t1 with
    | cons a2 t2 =>
      cases t2
      cases (show _ = Value.string s from a1)
      cases (show _ = Value.int .i64 x from a2)
      have h0 := hv.k0
      have h1 := hv.k1
      have h2 := hv.hs
      obtain ⟨m, rfl⟩ : ∃ m : Nat, x = m := ⟨x.toNat, by omega⟩
      have hb : s.size * m ≤ 1024 * 1024 := Nat.mul_le_mul h2 (by omega)
      refine (Tryz.strings_Repeat s m w (by omega) (by omega)).mono ?_
      rintro e w' ⟨rfl, hb⟩
      refine ⟨_, _, rfl, hk ⟨(Lib.repeatL s.data.toList m).toArray⟩ ?_, rfl, hb⟩
      show (((Lib.repeatL s.data.toList m).toArray.size : Nat) : Int) = (s.size : Int) * m
      have : s.data.toList.length = s.size := by simp
      rw [List.size_toArray, repL_len, this]
      simp
theorem okSum : CtOk Tryz.prog TSum := by
  refine ct_below okRep fun rs k φ z us w h hus => ?_
  obtain ⟨s, hv, rfl, hk⟩ := h
  rw [psSum] at hus
  cases hus with
  | cons a1 t1 =>
    cases t1
    cases (show _ = Value.string s from a1)
    refine (sum_walk s w hv.hs).mono ?_
    rintro e w' ⟨rfl, hb⟩
    exact ⟨_, _, rfl, hk _, rfl, hb⟩
end Go.Proofs.YtgjindhjgmplgaaGreat
end
section
set_option maxRecDepth 100000
namespace Go.Proofs.YtgjindhjgmplgaaGreat
open Wp
def z1B : ByteArray := ⟨#[0]⟩
structure CelV (b : ByteArray) (d : ByteArray) : Prop where
  hb : b.size ≤ 1000
  hd : d.size ≤ 12
def g190 (vs : List V) (E : Mem) (nx : Nat) (k : KVk) : Prop := match vs, E, nx with
  | [.c (.pv 0 0), .r s c], [(0, .R s' r)], 1 => fk (shEq s [.b, .s] && shEq s' [.s]) (∃ x y : ByteArray, CelV x y ∧ [[DV.s (rs r 0)], [DV.s (rs c 1)]] = [[DV.s x], [DV.s y]] ∧ ∀ b : ByteArray, ssz b = xadd (ssz x) 13 → k (.t []) [(0, .R [.s] [.s b])] 1) False
  | _, _, _ => False
def T190 : Ct := (190, g190) :: TSum
def g136 (rs : List Row) (k : V → Prop) : Prop := ∃ p : Pg, PgV p ∧ rs = [pgR p] ∧ ∀ s : ByteArray, k (.t [.c (.s s), .c (.i .i64 0)])
def T136 : Ct := (136, ctF (psF Tryz.prog 136) g136) :: T190
def enL : Lp := [(9, .e (Nat × ByteArray) (fun j => [(29, .c (.i .i64 (Int.ofNat j.1)))]) (fun j => [(1, .R [.s] [.s j.2])]) 0 [])]
theorem vc190 (r c : Row) (k : KVk) : dbody Tryz.prog (dcall Tryz.prog TSum (fun _ => []) 5) [] true 190 [.c (.pv 0 0), .r [.b, .s] c] [(0, .R [.s] r)] 1 k = (fk (rb c 0) (∃ s n z, PutV s z ∧ [[DV.s
  (rs r 0)], [DV.i (ssz (rs c 1))], [DV.i 1]] = [[DV.s s], [DV.i n], [DV.i z]] ∧ ∀ (s' : ByteArray), ssz s' = xadd (ssz s) z → fk (catOk s' (rs c 1)) (∃ s z, RepV s z ∧ [[DV.s z1B], [DV.i (wr .i64 (xsub 12 (ssz (rs c
  1))))]] = [[DV.s s], [DV.i z]] ∧ ∀ (s'_1 : ByteArray), ssz s'_1 = xmul (ssz s) z → fk (catOk (scat s' (rs c 1)) s'_1) (k (.t []) [(0, .R [.s] [DV.s (scat (scat s' (rs c 1)) s'_1)])] 1) False) False) (∃ s n z, PutV s z
  ∧ [[DV.s (rs r 0)], [DV.i 255], [DV.i 1]] = [[DV.s s], [DV.i n], [DV.i z]] ∧ ∀ (s' : ByteArray), ssz s' = xadd (ssz s) z → fk (catOk s' (rs c 1)) (∃ s z, RepV s z ∧ [[DV.s z1B], [DV.i (wr .i64 (xsub 12 (ssz (rs c
  1))))]] = [[DV.s s], [DV.i z]] ∧ ∀ (s'_1 : ByteArray), ssz s'_1 = xmul (ssz s) z → fk (catOk (scat s' (rs c 1)) s'_1) (k (.t []) [(0, .R [.s] [DV.s (scat (scat s' (rs c 1)) s'_1)])] 1) False) False)) := by kernel_rfl
theorem vc136 (p : Pg) (k : KVk) : dbody Tryz.prog (dcall Tryz.prog T190 (fun _ => []) 5) enL true 136 (argVs (psF Tryz.prog 136) [pgR p]) [] 0 k = (fk (ile 0 (ri (pgR p) 0)) (fk (ilt (ri (pgR p) 0)
  64) (fk (ile 0 (ri (pgR p) 1)) (fk (nt (ile (ri (pgR p) 1) 1099511627776)) (k (.t [.c (.s ⟨#[]⟩), .c (.i .i64 1)]) [] 0) (∃ p_1, PgV p_1 ∧ [pgR p] = [pgR p_1] ∧ ∃ s n z, PutV s z ∧ [[DV.s ⟨#[]⟩], [DV.i (ri (pgR p) 1)],
  [DV.i 8]] = [[DV.s s], [DV.i n], [DV.i z]] ∧ ∀ (s' : ByteArray), ssz s' = xadd (ssz s) z → ∃ s n z, PutV s z ∧ [[DV.s s'], [DV.i (ri (pgR p) 0)], [DV.i 4]] = [[DV.s s], [DV.i n], [DV.i z]] ∧ ∀ (s' : ByteArray), ssz s'
  = xadd (ssz s) z → ∃ (I : Nat × ByteArray → Prop) (μ : Nat × ByteArray → Nat), (∃ j, I j ∧ (0 = Int.ofNat j.fst ∧ True) ∧ ([DV.s s'] = [DV.s j.snd] ∧ pgR p = pgR p ∧ True) ∧ True) ∧ ∀ (j : Nat × ByteArray), I j → fk
  (ilt (Int.ofNat j.fst) 16) (fk (inR (Int.ofNat j.fst) 16) (fk (ieq (Int.ofNat j.fst) 0) (∃ x y, CelV x y ∧ [[DV.s j.snd], [DV.s (rs (rtk (rdp (pgR p) 2) 32) 1)]] = [[DV.s x], [DV.s y]] ∧ ∀ (b : ByteArray), ssz b = xadd
  (ssz x) 13 → ∃ j', I j' ∧ lessN (μ j') (μ j) ∧ (wr .i64 (xadd (Int.ofNat j.fst) 1) = Int.ofNat j'.fst ∧ True) ∧ ([DV.s b] = [DV.s j'.snd] ∧ pgR p = pgR p ∧ True) ∧ True) (fk (ieq (Int.ofNat j.fst) 1) (∃ x y, CelV x y ∧
  [[DV.s j.snd], [DV.s (rs (rtk (rdp (pgR p) 2) 32) 3)]] = [[DV.s x], [DV.s y]] ∧ ∀ (b : ByteArray), ssz b = xadd (ssz x) 13 → ∃ j', I j' ∧ lessN (μ j') (μ j) ∧ (wr .i64 (xadd (Int.ofNat j.fst) 1) = Int.ofNat j'.fst ∧
  True) ∧ ([DV.s b] = [DV.s j'.snd] ∧ pgR p = pgR p ∧ True) ∧ True) (fk (ieq (Int.ofNat j.fst) 2) (∃ x y, CelV x y ∧ [[DV.s j.snd], [DV.s (rs (rtk (rdp (pgR p) 2) 32) 5)]] = [[DV.s x], [DV.s y]] ∧ ∀ (b : ByteArray), ssz
  b = xadd (ssz x) 13 → ∃ j', I j' ∧ lessN (μ j') (μ j) ∧ (wr .i64 (xadd (Int.ofNat j.fst) 1) = Int.ofNat j'.fst ∧ True) ∧ ([DV.s b] = [DV.s j'.snd] ∧ pgR p = pgR p ∧ True) ∧ True) (fk (ieq (Int.ofNat j.fst) 3) (∃ x y,
  CelV x y ∧ [[DV.s j.snd], [DV.s (rs (rtk (rdp (pgR p) 2) 32) 7)]] = [[DV.s x], [DV.s y]] ∧ ∀ (b : ByteArray), ssz b = xadd (ssz x) 13 → ∃ j', I j' ∧ lessN (μ j') (μ j) ∧ (wr .i64 (xadd (Int.ofNat j.fst) 1) = Int.ofNat
  j'.fst ∧ True) ∧ ([DV.s b] = [DV.s j'.snd] ∧ pgR p = pgR p ∧ True) ∧ True) (fk (ieq (Int.ofNat j.fst) 4) (∃ x y, CelV x y ∧ [[DV.s j.snd], [DV.s (rs (rtk (rdp (pgR p) 2) 32) 9)]] = [[DV.s x], [DV.s y]] ∧ ∀ (b :
  ByteArray), ssz b = xadd (ssz x) 13 → ∃ j', I j' ∧ lessN (μ j') (μ j) ∧ (wr .i64 (xadd (Int.ofNat j.fst) 1) = Int.ofNat j'.fst ∧ True) ∧ ([DV.s b] = [DV.s j'.snd] ∧ pgR p = pgR p ∧ True) ∧ True) (fk (ieq (Int.ofNat
  j.fst) 5) (∃ x y, CelV x y ∧ [[DV.s j.snd], [DV.s (rs (rtk (rdp (pgR p) 2) 32) 11)]] = [[DV.s x], [DV.s y]] ∧ ∀ (b : ByteArray), ssz b = xadd (ssz x) 13 → ∃ j', I j' ∧ lessN (μ j') (μ j) ∧ (wr .i64 (xadd (Int.ofNat
  j.fst) 1) = Int.ofNat j'.fst ∧ True) ∧ ([DV.s b] = [DV.s j'.snd] ∧ pgR p = pgR p ∧ True) ∧ True) (fk (ieq (Int.ofNat j.fst) 6) (∃ x y, CelV x y ∧ [[DV.s j.snd], [DV.s (rs (rtk (rdp (pgR p) 2) 32) 13)]] = [[DV.s x],
  [DV.s y]] ∧ ∀ (b : ByteArray), ssz b = xadd (ssz x) 13 → ∃ j', I j' ∧ lessN (μ j') (μ j) ∧ (wr .i64 (xadd (Int.ofNat j.fst) 1) = Int.ofNat j'.fst ∧ True) ∧ ([DV.s b] = [DV.s j'.snd] ∧ pgR p = pgR p ∧ True) ∧ True) (fk
  (ieq (Int.ofNat j.fst) 7) (∃ x y, CelV x y ∧ [[DV.s j.snd], [DV.s (rs (rtk (rdp (pgR p) 2) 32) 15)]] = [[DV.s x], [DV.s y]] ∧ ∀ (b : ByteArray), ssz b = xadd (ssz x) 13 → ∃ j', I j' ∧ lessN (μ j') (μ j) ∧ (wr .i64
  (xadd (Int.ofNat j.fst) 1) = Int.ofNat j'.fst ∧ True) ∧ ([DV.s b] = [DV.s j'.snd] ∧ pgR p = pgR p ∧ True) ∧ True) (fk (ieq (Int.ofNat j.fst) 8) (∃ x y, CelV x y ∧ [[DV.s j.snd], [DV.s (rs (rtk (rdp (pgR p) 2) 32) 17)]]
  = [[DV.s x], [DV.s y]] ∧ ∀ (b : ByteArray), ssz b = xadd (ssz x) 13 → ∃ j', I j' ∧ lessN (μ j') (μ j) ∧ (wr .i64 (xadd (Int.ofNat j.fst) 1) = Int.ofNat j'.fst ∧ True) ∧ ([DV.s b] = [DV.s j'.snd] ∧ pgR p = pgR p ∧ True)
  ∧ True) (fk (ieq (Int.ofNat j.fst) 9) (∃ x y, CelV x y ∧ [[DV.s j.snd], [DV.s (rs (rtk (rdp (pgR p) 2) 32) 19)]] = [[DV.s x], [DV.s y]] ∧ ∀ (b : ByteArray), ssz b = xadd (ssz x) 13 → ∃ j', I j' ∧ lessN (μ j') (μ j) ∧
  (wr .i64 (xadd (Int.ofNat j.fst) 1) = Int.ofNat j'.fst ∧ True) ∧ ([DV.s b] = [DV.s j'.snd] ∧ pgR p = pgR p ∧ True) ∧ True) (fk (ieq (Int.ofNat j.fst) 10) (∃ x y, CelV x y ∧ [[DV.s j.snd], [DV.s (rs (rtk (rdp (pgR p) 2)
  32) 21)]] = [[DV.s x], [DV.s y]] ∧ ∀ (b : ByteArray), ssz b = xadd (ssz x) 13 → ∃ j', I j' ∧ lessN (μ j') (μ j) ∧ (wr .i64 (xadd (Int.ofNat j.fst) 1) = Int.ofNat j'.fst ∧ True) ∧ ([DV.s b] = [DV.s j'.snd] ∧ pgR p = pgR
  p ∧ True) ∧ True) (fk (ieq (Int.ofNat j.fst) 11) (∃ x y, CelV x y ∧ [[DV.s j.snd], [DV.s (rs (rtk (rdp (pgR p) 2) 32) 23)]] = [[DV.s x], [DV.s y]] ∧ ∀ (b : ByteArray), ssz b = xadd (ssz x) 13 → ∃ j', I j' ∧ lessN (μ
  j') (μ j) ∧ (wr .i64 (xadd (Int.ofNat j.fst) 1) = Int.ofNat j'.fst ∧ True) ∧ ([DV.s b] = [DV.s j'.snd] ∧ pgR p = pgR p ∧ True) ∧ True) (fk (ieq (Int.ofNat j.fst) 12) (∃ x y, CelV x y ∧ [[DV.s j.snd], [DV.s (rs (rtk
  (rdp (pgR p) 2) 32) 25)]] = [[DV.s x], [DV.s y]] ∧ ∀ (b : ByteArray), ssz b = xadd (ssz x) 13 → ∃ j', I j' ∧ lessN (μ j') (μ j) ∧ (wr .i64 (xadd (Int.ofNat j.fst) 1) = Int.ofNat j'.fst ∧ True) ∧ ([DV.s b] = [DV.s
  j'.snd] ∧ pgR p = pgR p ∧ True) ∧ True) (fk (ieq (Int.ofNat j.fst) 13) (∃ x y, CelV x y ∧ [[DV.s j.snd], [DV.s (rs (rtk (rdp (pgR p) 2) 32) 27)]] = [[DV.s x], [DV.s y]] ∧ ∀ (b : ByteArray), ssz b = xadd (ssz x) 13 → ∃
  j', I j' ∧ lessN (μ j') (μ j) ∧ (wr .i64 (xadd (Int.ofNat j.fst) 1) = Int.ofNat j'.fst ∧ True) ∧ ([DV.s b] = [DV.s j'.snd] ∧ pgR p = pgR p ∧ True) ∧ True) (fk (ieq (Int.ofNat j.fst) 14) (∃ x y, CelV x y ∧ [[DV.s
  j.snd], [DV.s (rs (rtk (rdp (pgR p) 2) 32) 29)]] = [[DV.s x], [DV.s y]] ∧ ∀ (b : ByteArray), ssz b = xadd (ssz x) 13 → ∃ j', I j' ∧ lessN (μ j') (μ j) ∧ (wr .i64 (xadd (Int.ofNat j.fst) 1) = Int.ofNat j'.fst ∧ True) ∧
  ([DV.s b] = [DV.s j'.snd] ∧ pgR p = pgR p ∧ True) ∧ True) (fk (ieq (Int.ofNat j.fst) 15) (∃ x y, CelV x y ∧ [[DV.s j.snd], [DV.s (rs (rtk (rdp (pgR p) 2) 32) 31)]] = [[DV.s x], [DV.s y]] ∧ ∀ (b : ByteArray), ssz b =
  xadd (ssz x) 13 → ∃ j', I j' ∧ lessN (μ j') (μ j) ∧ (wr .i64 (xadd (Int.ofNat j.fst) 1) = Int.ofNat j'.fst ∧ True) ∧ ([DV.s b] = [DV.s j'.snd] ∧ pgR p = pgR p ∧ True) ∧ True) False)))))))))))))))) False) (∃ s z, RepV s
  z ∧ [[DV.s z1B], [DV.i (wr .i64 (xsub 244 (ssz j.snd)))]] = [[DV.s s], [DV.i z]] ∧ ∀ (s' : ByteArray), ssz s' = xmul (ssz s) z → fk (catOk j.snd s') (∃ s, SumV s ∧ [[DV.s (scat j.snd s')]] = [[DV.s s]] ∧ ∀ (n : Nat), ∃
  s n_1 z, PutV s z ∧ [[DV.s (scat j.snd s')], [DV.i (wr .i64 (Int.ofNat n))], [DV.i 4]] = [[DV.s s], [DV.i n_1], [DV.i z]] ∧ ∀ (s' : ByteArray), ssz s' = xadd (ssz s) z → ∃ s n z, PutV s z ∧ [[DV.s s'], [DV.i (ri (pgR
  p) 1)], [DV.i 8]] = [[DV.s s], [DV.i n], [DV.i z]] ∧ ∀ (s' : ByteArray), ssz s' = xadd (ssz s) z → k (.t [.c (.s s'), .c (.i .i64 0)]) [] 0) False))) (k (.t [.c (.s ⟨#[]⟩), .c (.i .i64 1)]) [] 0)) (k (.t [.c (.s
  ⟨#[]⟩), .c (.i .i64 1)]) [] 0)) (k (.t [.c (.s ⟨#[]⟩), .c (.i .i64 1)]) [] 0)) := by kernel_rfl
theorem catOk_T {a b : ByteArray} (h : ssz a + ssz b ≤ 9223372036854775807) : catOk a b = true := by unfold ssz at h; unfold catOk; simp; omega
theorem ssz_cat (a b : ByteArray) : ssz (scat a b) = ssz a + ssz b := by unfold ssz scat; rw [ByteArray.size_append]; omega
theorem ssz_nn (a : ByteArray) : 0 ≤ ssz a := by unfold ssz; omega
theorem ssz_le {a : ByteArray} {n : Nat} (h : ssz a ≤ n) : a.size ≤ n := by unfold ssz at h; omega
theorem wr_ok {n : Int} (h1 : -9223372036854775808 ≤ n) (h2 : n ≤ 9223372036854775807) : wr .i64 n = n := wr_id (by omega) (by omega)
theorem ok190 : CtOk Tryz.prog T190 := by
  refine ct_raw okSum fun vs E nx k h => ?_
  unfold g190 at h
  split at h
  · rename_i s c s' r
    obtain ⟨h1, x, y, hv, he, hk⟩ := fk_yes h
    obtain ⟨h2, h3⟩ := and2 h1
    have := shEq_eq _ _ h2
    subst this
    have := shEq_eq _ _ h3
    subst this
    simp only [List.cons.injEq, DV.s.injEq, and_true] at he
    obtain ⟨rfl, rfl⟩ := he
    refine ⟨_, _, _, _, (vc190 r c k).mpr ?_⟩
    generalize rs r 0 = b at hv hk ⊢
    generalize rs c 1 = d at hv hk ⊢
    have hb : ssz b ≤ 1000 := by have := hv.hb; unfold ssz; omega
    have hd : ssz d ≤ 12 := by have := hv.hd; unfold ssz; omega
    have hb0 := ssz_nn b
    have hd0 := ssz_nn d
    have road : ∀ n : Int, ∃ s n' z, PutV s z ∧ [[DV.s b], [DV.i n], [DV.i 1]] = [[DV.s s], [DV.i n'], [DV.i z]] ∧ ∀ s' : ByteArray, ssz s' = xadd (ssz s) z → fk (catOk s' d) (∃ s z, RepV s z ∧ [[DV.s z1B], [DV.i (wr .i64 (xsub 12 (ssz d)))]] = [[DV.s s], [DV.i z]] ∧ ∀ s'_1 : ByteArray, ssz s'_1 = xmul (ssz s) z → fk (catOk (scat s' d) s'_1) (k (.t []) [(0, .R [.s] [DV.s (scat (scat s' d) s'_1)])] 1) False) False := by
      intro n
      refine ⟨_, _, _, ⟨ssz_le (n := 1048576) (by omega), by decide, by decide⟩, rfl, fun s' hs' => ?_⟩
      unfold xadd at hs'
      have hw : wr .i64 (xsub 12 (ssz d)) = 12 - ssz d := by unfold xsub; exact wr_ok (by omega) (by omega)
      rw [hw]
      refine fk_t (catOk_T (by omega)) ⟨_, _, ⟨by decide, by omega, by omega⟩, rfl, fun s2 hs2 => ?_⟩
      have hz : ssz z1B = 1 := rfl
      unfold xmul at hs2
      rw [hz, Int.one_mul] at hs2
      refine fk_t (catOk_T (by rw [ssz_cat]; omega)) (hk _ ?_)
      unfold xadd
      rw [ssz_cat, ssz_cat]
      omega
    exact fk_of (fun _ => road _) fun _ => road _
  · exact h.elim
theorem PgV.data {p : Pg} (h : PgV p) {i : Nat} (hi : i < 16) : (clA p.cells i).2.size ≤ 12 := by
  have hc := h.cell hi
  unfold cellB1 validCl at hc
  simp only [Bool.and_eq_true, decide_eq_true_eq] at hc
  exact hc.1.1
theorem ok136 : CtOk Tryz.prog T136 := by
  refine ct_cons ok190 (fz := true) fun rs k h => ?_
  obtain ⟨p, hv, rfl, hk⟩ := h
  refine ⟨_, _, _, (vc136 p k).mpr ?_⟩
  obtain ⟨h1, h2, h3, h4⟩ := hv.num
  rw [pgR_0, pgR_1]
  refine fk_t (by (first | rfl | (simp (disch := omega) only [FS, eq_self, List.length_cons, List.length_nil, true_and, and_true, ssz, xadd, xsub, xmul, xmin, xmax] <;> omega) | omega)) (fk_t (by (first | rfl | (simp (disch := omega) only [FS, eq_self, List.length_cons, List.length_nil, true_and, and_true, ssz, xadd, xsub, xmul, xmin, xmax] <;> omega) | omega)) (fk_t (by (first | rfl | (simp (disch := omega) only [FS, eq_self, List.length_cons, List.length_nil, true_and, and_true, ssz, xadd, xsub, xmul, xmin, xmax] <;> omega) | omega)) (fk_n (by (first | rfl | (simp (disch := omega) only [FS, eq_self, List.length_cons, List.length_nil, true_and, and_true, ssz, xadd, xsub, xmul, xmin, xmax] <;> omega) | omega)) ⟨p, hv, rfl, _, _, _, ⟨by decide, by decide, by decide⟩, rfl, fun s1 e1 => ⟨_, _, _, ⟨?_, by decide, by decide⟩, rfl, fun s2 e2 => ?_⟩⟩)))
  · have : ssz (⟨#[]⟩ : ByteArray) = 0 := rfl
    unfold xadd at e1
    exact ssz_le (n := 1048576) (by omega)
  have z0 : ssz (⟨#[]⟩ : ByteArray) = 0 := rfl
  unfold xadd at e1 e2
  refine ⟨fun j => j.1 ≤ 16 ∧ ssz j.2 = 12 + 13 * (j.1 : Int), fun j => 16 - j.1, ⟨(0, s2), ⟨by omega, by dsimp only; omega⟩, ⟨rfl, trivial⟩, ⟨rfl, rfl, trivial⟩, trivial⟩, ?_⟩
  rintro ⟨i, s⟩ ⟨hi, hs⟩
  dsimp only at hi hs ⊢
  have hs0 := ssz_nn s
  refine fk_of (fun e => ?_) fun e => ?_
  · have hi : i < 16 := by have := ilt_t e; have : (i : Int) < 16 := this; omega
    refine fk_t (by simp [inR]; omega) ?_
    have nx : ∀ b : ByteArray, ssz b = xadd (ssz s) 13 → ∃ j' : Nat × ByteArray, (j'.1 ≤ 16 ∧ ssz j'.2 = 12 + 13 * (j'.1 : Int)) ∧ lessN (16 - j'.1) (16 - i) ∧ (wr .i64 (xadd (Int.ofNat i) 1) = Int.ofNat j'.1 ∧ True) ∧ ([DV.s b] = [DV.s j'.2] ∧ pgR p = pgR p ∧ True) ∧ True := fun b hb => by
      unfold xadd at hb
      refine ⟨(i + 1, b), ⟨hi, by dsimp only; omega⟩, (by show 16 - (i + 1) < 16 - i; omega), ⟨?_, trivial⟩, ⟨rfl, rfl, trivial⟩, trivial⟩
      unfold xadd
      exact wr_ok (by simp; omega) (by simp; omega)
    have hb : ∀ c : Cl, c.2.size ≤ 12 → ∃ x y, CelV x y ∧ [[DV.s s], [DV.s c.2]] = [[DV.s x], [DV.s y]] ∧ ∀ b : ByteArray, ssz b = xadd (ssz x) 13 → ∃ j' : Nat × ByteArray, (j'.1 ≤ 16 ∧ ssz j'.2 = 12 + 13 * (j'.1 : Int)) ∧ lessN (16 - j'.1) (16 - i) ∧ (wr .i64 (xadd (Int.ofNat i) 1) = Int.ofNat j'.1 ∧ True) ∧ ([DV.s b] = [DV.s j'.2] ∧ pgR p = pgR p ∧ True) ∧ True := fun c hc => ⟨s, c.2, ⟨ssz_le (by omega), hc⟩, rfl, nx⟩
    clear nx
    have hc : ∀ i, i < 16 → (clA p.cells i).2.size ≤ 12 := fun i hi => hv.data hi
    refine fk_of (fun _ => hb (clA p.cells 0) (hc 0 (by decide))) fun e0 => ?_
    refine fk_of (fun _ => hb (clA p.cells 1) (hc 1 (by decide))) fun e1 => ?_
    refine fk_of (fun _ => hb (clA p.cells 2) (hc 2 (by decide))) fun e2 => ?_
    refine fk_of (fun _ => hb (clA p.cells 3) (hc 3 (by decide))) fun e3 => ?_
    refine fk_of (fun _ => hb (clA p.cells 4) (hc 4 (by decide))) fun e4 => ?_
    refine fk_of (fun _ => hb (clA p.cells 5) (hc 5 (by decide))) fun e5 => ?_
    refine fk_of (fun _ => hb (clA p.cells 6) (hc 6 (by decide))) fun e6 => ?_
    refine fk_of (fun _ => hb (clA p.cells 7) (hc 7 (by decide))) fun e7 => ?_
    refine fk_of (fun _ => hb (clA p.cells 8) (hc 8 (by decide))) fun e8 => ?_
    refine fk_of (fun _ => hb (clA p.cells 9) (hc 9 (by decide))) fun e9 => ?_
    refine fk_of (fun _ => hb (clA p.cells 10) (hc 10 (by decide))) fun e10 => ?_
    refine fk_of (fun _ => hb (clA p.cells 11) (hc 11 (by decide))) fun e11 => ?_
    refine fk_of (fun _ => hb (clA p.cells 12) (hc 12 (by decide))) fun e12 => ?_
    refine fk_of (fun _ => hb (clA p.cells 13) (hc 13 (by decide))) fun e13 => ?_
    refine fk_of (fun _ => hb (clA p.cells 14) (hc 14 (by decide))) fun e14 => ?_
    refine fk_of (fun _ => hb (clA p.cells 15) (hc 15 (by decide))) fun e15 => ?_
    exact absurd hi (by simp only [ieq_F, ofN] at *; omega)
  · have hi : i = 16 := by have := ilt_f e; have : (16 : Int) ≤ i := this; omega
    subst hi
    have hw : wr .i64 (xsub 244 (ssz s)) = 24 := by unfold xsub; rw [wr_ok (by omega) (by omega)]; omega
    rw [hw]
    refine ⟨_, _, ⟨by decide, by decide, by decide⟩, rfl, fun s3 e3 => ?_⟩
    have hz : ssz z1B = 1 := rfl
    unfold xmul at e3
    rw [hz] at e3
    refine fk_t (catOk_T (by omega)) ⟨_, ⟨ssz_le (n := 1048576) (by rw [ssz_cat]; omega)⟩, rfl, fun n => ⟨_, _, _, ⟨ssz_le (n := 1048576) (by rw [ssz_cat]; omega), by decide, by decide⟩, rfl, fun s4 e4 => ⟨_, _, _, ⟨ssz_le (n := 1048576) (by unfold xadd at e4; rw [ssz_cat] at e4; omega), by decide, by decide⟩, rfl, fun s5 e5 => hk s5⟩⟩⟩
end Go.Proofs.YtgjindhjgmplgaaGreat
end
