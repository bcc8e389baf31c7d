/-
  Functions that the evaluator takes by their contracts: codec.Put, codec.Sum, strings.Repeat.
-/
import Derived.Test.YtjnfgapfhpihmaaGreatKS0
import Derived.Test.YtjnfgapfhpihmaaGreatEvG
import Derived.WalkKit
import Derived.BigCall
import Derived.Below
import Derived.Laws.BitsAllLaws
import Derived.Test.YtjnfgapfhpihmaaGreatCod
set_option linter.unusedVariables false
set_option linter.unusedSimpArgs false
section
namespace Go.Proofs.YtjnfgapfhpihmaaGreat
open Go.RowKit
def crcT : List Int := [0, 274646895, 549293790, 820201905, 1098587580, 1361435347, 1640403810, 1905808397, 2197175160, 2460548119, 2722870694, 2987750089, 3280807620, 3553878443, 3811616794, 4084100981]
abbrev z16 : Array Value := #[Value.int .u32 0, .int .u32 0, .int .u32 0, .int .u32 0, .int .u32 0, .int .u32 0, .int .u32 0, .int .u32 0, .int .u32 0, .int .u32 0, .int .u32 0, .int .u32 0, .int .u32 0, .int .u32 0, .int .u32 0, .int .u32 0]
def crcV : AV := .a (crcT.map fun n => AC.i .u32 n)
noncomputable def tblS : Tab := tabOf [(⟨.x1, .x0, .x9⟩, c265)]
theorem tblS_ok {E : Env} : TabOk Tryz.prog E tblS := tab_cons tab_nil e265
theorem mixed : Tryz.prog.follows .mixedOrders = true := by kernel_rfl
theorem rem_run0 : isPlain crcV (callBy tblS (aev Tryz.prog env0 tblS (nat_lit 500)) ⟨.x1, .x0, .x9⟩ [] hp0) = true := by kernel_rfl
theorem remainders_walk (w : World) : Calls Tryz.prog 265 #[] w fun e w' => e = .returned (.agg (crcT.map fun n => Value.int .u32 n).toArray) ∧ Below w.heap.size w w' :=
  val_run (eval_ok tblS_ok mixed _) env0_ok rem_run0 rfl w
def crcN (i : Nat) : Nat := (crcT.getD i 0).toNat
theorem crcN_ok : ∀ i, i < 16 → crcT.getD i 0 = (crcN i : Int) ∧ crcN i < 4294967296 := by decide
def crc1 (x : Nat) : Nat := (x / 16) ^^^ crcN (x &&& 15)
def crcStep (x b : Nat) : Nat := crc1 (crc1 (x ^^^ b))
def crcL (x : Nat) : List UInt8 → Nat
  | [] => x
  | b :: l => crcL (crcStep x b.toNat) l
def crcF (l : List UInt8) : Nat := 4294967295 ^^^ crcL 4294967295 l
theorem xor_lt {a b : Nat} (ha : a < 4294967296) (hb : b < 4294967296) : a ^^^ b < 4294967296 := Nat.xor_lt_two_pow (n := 32) ha hb
theorem crc1_lt {x : Nat} (hx : x < 4294967296) : crc1 x < 4294967296 := xor_lt (by omega) (crcN_ok _ (Nat.and_lt_two_pow (n := 4) _ (by omega))).2
theorem crcL_lt : ∀ (l : List UInt8) {x : Nat}, x < 4294967296 → crcL x l < 4294967296
  | [], x, h => h
  | b :: l, x, h => crcL_lt l (crc1_lt (crc1_lt (xor_lt h (by have := b.toNat_lt; omega))))
theorem crcL_append : ∀ (l m : List UInt8) (x : Nat), crcL x (l ++ m) = crcL (crcL x l) m
  | [], m, x => rfl
  | b :: l, m, x => crcL_append l m _
set_option maxHeartbeats 4000000 in
set_option maxRecDepth 1000000 in
theorem sum_walk (s : ByteArray) (w : World) (hs : s.size ≤ 1048576) :
    Calls Tryz.prog 224 #[.string s] w fun e w' => e = .returned (.int .u32 (crcF s.data.toList : Nat)) ∧ Below w.heap.size w w' := by
  go_enter Tryz.func224, Tryz.ntmps224
  go_wp2_with (go_at_call 265; refine (remainders_walk _).mono ?_)
  rintro e w1 ⟨rfl, b1⟩
  go_wp2
  have hst := run_storeCells_at (P := Tryz.prog) w1.heap.size 0 320 (crcT.map fun n => Value.int .u32 n) 0 _ (w1.alloc (.cells z16 320)) (MapKept.heap_alloc w1 _).1 (by decide) (by decide)
  rw [hst]
  simp only [Result.andThen]
  rw [Oper.upon_skip]
  have hheap := setRow_heap (w1.alloc (.cells z16 320)) w1.heap.size _ (crcT.map fun n => Value.int .u32 n).toArray 320 (0, 0) (MapKept.heap_alloc w1 _).1
  have hbel : Below w.heap.size w ((w1.alloc (.cells z16 320)).setRow w1.heap.size (crcT.map fun n => Value.int .u32 n).toArray) := by
    have h := b1.alloc b1.size (.cells z16 320)
    refine ⟨h.os, h.tape, h.output, by have := h.size; simp at this ⊢; omega, fun k hk => ?_⟩
    rw [setRow_other _ _ _ _ (by have := b1.size; omega)]
    exact h.block k hk
  clear hst
  have hrw : (List.take (0 + 0) (Array.toList z16) ++ (crcT.map fun n => Value.int .u32 n) ++ List.drop (0 + 0 + (crcT.map fun n => Value.int .u32 n).length) (Array.toList z16)) = crcT.map fun n => Value.int .u32 n := by rfl
  rw [hrw]
  clear hrw
  generalize World.setRow _ _ _ = w2 at hheap hbel ⊢
  have hcell : ∀ (k : Nat), k < 16 → w2.cell? ⟨w1.heap.size, k, none⟩ = some (.int .u32 (crcT.getD k 0)) := by
    intro k hk
    rw [cell_of_row w2 _ k _ _ _ hheap]
    rw [List.getElem?_toArray, List.getElem?_map]
    have hk' : k < crcT.length := hk
    simp [List.getD, List.getElem?_eq_getElem hk']
  go_wp2
  go_loop [4, 9] (fun r i => ∃ (j x : Nat), j ≤ s.size ∧ i = .int .i64 j ∧ r = .int .u32 x ∧ x < 4294967296 ∧ Hid (x = crcL 4294967295 (s.data.toList.take j))) (fun _ i => s.size - (intOf i).toNat)
  case atStart => exact ⟨0, 4294967295, by omega, rfl, rfl, by omega, rfl⟩
  case round =>
    obtain ⟨j, x, hj, rfl, rfl, hx1, hxe⟩ := hrel
    by_cases hlt : (j : Int) < s.size
    · have hjs : j < s.size := by omega
      have hb : s[j].toNat < 256 := s[j].toNat_lt
      have e1 : bits .xor .u32 (x : Int) (s[j].toNat : Int) = ((x ^^^ s[j].toNat : Nat) : Int) := u32_xor_nat x _ hx1 (by omega)
      have h1 : x ^^^ s[j].toNat < 4294967296 := xor_lt hx1 (by omega)
      have hd1 : Hid (crcStep x s[j].toNat = crc1 (crc1 (x ^^^ s[j].toNat))) := rfl
      generalize hr1 : x ^^^ s[j].toNat = r1 at e1 h1 hd1
      have e2 : bits .and .u32 (r1 : Int) 15 = ((r1 &&& 15 : Nat) : Int) := u32_and_nat r1 15 h1 (by decide)
      have h2 : r1 &&& 15 < 16 := Nat.and_lt_two_pow (n := 4) _ (by omega)
      have c1 := hcell _ h2
      rw [(crcN_ok _ h2).1] at c1
      have h3 := (crcN_ok _ h2).2
      have e3 : bits .xor .u32 ((r1 : Int) / 16) (crcN (r1 &&& 15) : Int) = ((crc1 r1 : Nat) : Int) := by
        rw [show (r1 : Int) / 16 = ((r1 / 16 : Nat) : Int) from by omega]
        exact u32_xor_nat _ _ (by omega) h3
      have h4 := crc1_lt h1
      generalize hr2 : crc1 r1 = r2 at e3 h4 hd1
      generalize hi1 : r1 &&& 15 = i1 at e2 h2 c1 h3 e3
      generalize crcN i1 = t1 at c1 h3 e3
      have e4 : bits .and .u32 (r2 : Int) 15 = ((r2 &&& 15 : Nat) : Int) := u32_and_nat r2 15 h4 (by decide)
      have h5 : r2 &&& 15 < 16 := Nat.and_lt_two_pow (n := 4) _ (by omega)
      have c2 := hcell _ h5
      rw [(crcN_ok _ h5).1] at c2
      have h6 := (crcN_ok _ h5).2
      have e5 : bits .xor .u32 ((r2 : Int) / 16) (crcN (r2 &&& 15) : Int) = ((crc1 r2 : Nat) : Int) := by
        rw [show (r2 : Int) / 16 = ((r2 / 16 : Nat) : Int) from by omega]
        exact u32_xor_nat _ _ (by omega) h6
      have h7 := crc1_lt h4
      generalize hr3 : crc1 r2 = r3 at e5 h7 hd1
      generalize hi2 : r2 &&& 15 = i2 at e4 h5 c2 h6 e5
      generalize crcN i2 = t2 at c2 h6 e5
      clear hr1 hr2 hr3 hi1 hi2 hcell
      go_wp2
      go_round
      case rel =>
        refine ⟨j + 1, r3, by omega, by go_num, by go_num, h7, ?_⟩
        show r3 = crcL 4294967295 (s.data.toList.take (j + 1))
        have hlen : j < s.data.toList.length := by simpa using hjs
        rw [List.take_add_one, List.getElem?_eq_getElem hlen, crcL_append, ← show x = crcL 4294967295 (s.data.toList.take j) from hxe]
        exact (show crcStep x s[j].toNat = r3 from hd1).symm
      case measure => simp [intOf]; omega
    · have hjk : j = s.size := by omega
      subst hjk
      go_wp2
      go_ret
      refine ⟨?_, hbel⟩
      have hm : bits .xor .u32 IntKind.u32.max (x : Int) = ((4294967295 ^^^ x : Nat) : Int) := u32_xor_nat 4294967295 x (by decide) hx1
      rw [hm]
      have hx : x = crcL 4294967295 s.data.toList := by
        have h := show x = crcL 4294967295 (s.data.toList.take s.size) from hxe
        rwa [List.take_of_length_le (by simp)] at h
      rw [hx]
      rfl
end Go.Proofs.YtjnfgapfhpihmaaGreat
end
section
namespace Go.Proofs.YtjnfgapfhpihmaaGreat
open Go.RowKit
theorem nat_of {P : Program} {n : FuncId} {ρ : Vn} {φ : Emb} {h : Hp} {w : World} {us : Array Value} {v : AV} {u : Value} (hr : Rel ρ φ h w) (hv : VV ρ φ v u) (hc : Calls P n us w fun e w' => e = .returned u ∧ Below w.heap.size w w') :
    Calls P n us w fun e w' => ∃ u φ', e = .returned u ∧ VV ρ φ' v u ∧ Stp ρ φ h w φ' h w' := by
  refine hc.mono ?_
  rintro e w' ⟨rfl, b⟩
  exact ⟨u, φ, rfl, hv, hr.keepS b⟩
def putN (m : Nat) (k : Nat) : List Nat := @Nat.rec (fun _ => List Nat) [] (fun i l => l ++ [Nat.mod (Nat.div m (Nat.pow 2 (Nat.mul 8 i))) 256]) k
theorem putN_eq {m : Nat} (hm : m < 18446744073709551616) : ∀ k, putN m k = (putL (Int.ofNat m) k).map UInt8.toNat
  | 0 => rfl
  | k + 1 => by
    show putN m k ++ [m / 2 ^ (8 * k) % 256] = (putL (Int.ofNat m) k ++ [putB (Int.ofNat m) k]).map UInt8.toNat
    rw [putN_eq hm k, List.map_append]
    congr 1
    show [m / 2 ^ (8 * k) % 256] = [(putB (Int.ofNat m) k).toNat]
    have h := putB_cell (Int.ofNat m) k
    have hw : IntKind.u64.wrap (Int.ofNat m) = ((m : Nat) : Int) := by
      show IntKind.u64.wrap (m : Int) = m
      simp [IntKind.wrap, IntKind.bits, IntKind.signed]
      omega
    rw [hw] at h
    have e : ((m : Nat) : Int) / 2 ^ (8 * k) % 256 = ((m / 2 ^ (8 * k) % 256 : Nat) : Int) := by
      rw [Int.natCast_emod, Int.natCast_ediv, Int.natCast_pow]; rfl
    rw [e] at h
    rw [Int.ofNat_inj.1 h]
def putG (l : List Nat) (m k : Nat) : Option AV := bif Nat.ble l.length 1000000 && Nat.blt m 9223372036854775808 && Nat.ble 1 k && Nat.ble k 8 then some (.c (.s (l ++ putN m k))) else none
def natPut : List AV → Option AV
  | [.c (.s l), .c (.i .i64 (.ofNat m)), .c (.i .i64 (.ofNat k))] => putG l m k
  | _ => none
theorem natPut_ok {E : Env} : EntOk Tryz.prog E ⟨.x0, .xd, .xe⟩ (.nat natPut) := by
  refine ent_nat (n := 222) Tryz.func222 rfl rfl (by kernel_rfl) ?_
  intro vs v hv ρ φ h w us he hr hu
  unfold natPut at hv
  split at hv
  · rename_i l m k
    unfold putG at hv
    cases hb : (Nat.ble l.length 1000000 && Nat.blt m 9223372036854775808 && Nat.ble 1 k && Nat.ble k 8) with
    | false => rw [hb] at hv; cases hv
    | true =>
      rw [hb] at hv
      cases hv
      rw [Bool.and_eq_true, Bool.and_eq_true, Bool.and_eq_true] at hb
      have b1 := Nat.le_of_ble_eq_true hb.1.1.1
      have b2 : m < 9223372036854775808 := Nat.le_of_ble_eq_true hb.1.1.2
      have b3 := Nat.le_of_ble_eq_true hb.1.2
      have b4 := Nat.le_of_ble_eq_true hb.2
      cases hu with
      | cons a1 t1 =>
        cases t1 with
        | cons a2 t2 =>
          cases t2 with
          | cons a3 t3 =>
            cases t3
            obtain ⟨y, rfl, hy⟩ := a1
            cases (show _ = Value.int .i64 (Int.ofNat m) from a2)
            cases (show _ = Value.int .i64 (Int.ofNat k) from a3)
            have hys : y.size ≤ 1048576 := by
              have : y.data.toList.length = l.length := by rw [← hy, List.length_map]
              have h2 : y.size = y.data.toList.length := by simp
              omega
            refine nat_of hr (u := .string ⟨(y.data.toList ++ putL (Int.ofNat m) k).toArray⟩) ⟨_, rfl, ?_⟩ (put_walk y (Int.ofNat m) k w hys b3 b4)
            rw [putN_eq (by omega), ← hy, ← List.map_append]
  · cases hv
def crcTN : List Nat := [0, 274646895, 549293790, 820201905, 1098587580, 1361435347, 1640403810, 1905808397, 2197175160, 2460548119, 2722870694, 2987750089, 3280807620, 3553878443, 3811616794, 4084100981]
noncomputable def crc1N (x : Nat) : Nat := Option.casesOn (motive := fun _ => Nat) (lget (Nat.land x 15) crcTN) 0 fun t => Nat.xor (Nat.div x 16) t
noncomputable def crcStepN (b x : Nat) : Nat := crc1N (crc1N (Nat.xor x b))
noncomputable def crcLN (l : List Nat) : Nat → Nat := @List.rec Nat (fun _ => Nat → Nat) (fun x => x) (fun b _ ih x => ih (crcStepN b x)) l
theorem crcTN_ok : ∀ i, i < 16 → crcTN[i]? = some (crcN i) := by decide
theorem crc1N_eq (x : Nat) : crc1N x = crc1 x := by
  have h := crcTN_ok (x &&& 15) (Nat.and_lt_two_pow (n := 4) _ (by omega))
  unfold crc1N
  rw [lget_eq, show Nat.land x 15 = x &&& 15 from rfl, h]
  rfl
theorem crcLN_eq : ∀ (l : List UInt8) (x : Nat), crcLN (l.map UInt8.toNat) x = crcL x l
  | [], x => rfl
  | b :: l, x => by
    show crcLN (l.map UInt8.toNat) (crcStepN b.toNat x) = crcL (crcStep x b.toNat) l
    rw [crcLN_eq l]
    unfold crcStepN crcStep
    rw [crc1N_eq, crc1N_eq]
    rfl
noncomputable def natSum : List AV → Option AV
  | [.c (.s l)] => bif Nat.ble l.length 1000000 then some (.c (.i .u32 (Int.ofNat (Nat.xor 4294967295 (crcLN l 4294967295))))) else none
  | _ => none
theorem natSum_ok {E : Env} : EntOk Tryz.prog E ⟨.x0, .xe, .x0⟩ (.nat natSum) := by
  refine ent_nat (n := 224) Tryz.func224 rfl rfl (by kernel_rfl) ?_
  intro vs v hv ρ φ h w us he hr hu
  unfold natSum at hv
  split at hv
  · rename_i l
    cases hb : Nat.ble l.length 1000000 with
    | false => rw [hb] at hv; cases hv
    | true =>
      rw [hb] at hv
      cases hv
      have b1 := Nat.le_of_ble_eq_true hb
      cases hu with
      | cons a1 t1 =>
        cases t1
        obtain ⟨y, rfl, hy⟩ := a1
        have hys : y.size ≤ 1048576 := by
          have : y.data.toList.length = l.length := by rw [← hy, List.length_map]
          have h2 : y.size = y.data.toList.length := by simp
          omega
        refine nat_of hr (u := .int .u32 (crcF y.data.toList : Nat)) ?_ (sum_walk y w hys)
        show Value.int .u32 _ = .int .u32 _
        rw [← hy, crcLN_eq]
        rfl
  · cases hv
def repG (l : List Nat) (c : Nat) : List Nat := @Nat.rec (fun _ => List Nat) [] (fun _ r => l ++ r) c
theorem repG_eq (l : List UInt8) : ∀ c, repG (l.map UInt8.toNat) c = (Lib.repeatL l c).map UInt8.toNat
  | 0 => rfl
  | c + 1 => by
    show l.map UInt8.toNat ++ repG (l.map UInt8.toNat) c = _
    rw [repG_eq l c, ← List.map_append]
    rfl
def natRepeat : List AV → Option AV
  | [.c (.s l), .c (.i .i64 (.ofNat c))] => bif Nat.ble l.length 1000 && Nat.ble c 1000000 then some (.c (.s (repG l c))) else none
  | _ => none
theorem natRepeat_ok {E : Env} : EntOk Tryz.prog E ⟨.x0, .x3, .x0⟩ (.nat natRepeat) := by
  refine ent_nat (n := 48) Tryz.func48 rfl rfl (by kernel_rfl) ?_
  intro vs v hv ρ φ h w us he hr hu
  unfold natRepeat at hv
  split at hv
  · rename_i l c
    cases hb : (Nat.ble l.length 1000 && Nat.ble c 1000000) with
    | false => rw [hb] at hv; cases hv
    | true =>
      rw [hb] at hv
      cases hv
      rw [Bool.and_eq_true] at hb
      have b1 := Nat.le_of_ble_eq_true hb.1
      have b2 := Nat.le_of_ble_eq_true hb.2
      cases hu with
      | cons a1 t1 =>
        cases t1 with
        | cons a2 t2 =>
          cases t2
          obtain ⟨y, rfl, hy⟩ := a1
          cases (show _ = Value.int .i64 (Int.ofNat c) from a2)
          have hys : y.size ≤ 1000 := by
            have : y.data.toList.length = l.length := by rw [← hy, List.length_map]
            have h2 : y.size = y.data.toList.length := by simp
            omega
          have hm : y.size * c ≤ 1000 * 1000000 := Nat.mul_le_mul hys b2
          refine nat_of hr (u := .string ⟨(Lib.repeatL y.data.toList c).toArray⟩) ⟨_, rfl, ?_⟩ (Tryz.strings_Repeat y c w (by omega) (by omega))
          rw [← hy, repG_eq]
  · cases hv
end Go.Proofs.YtjnfgapfhpihmaaGreat
end
