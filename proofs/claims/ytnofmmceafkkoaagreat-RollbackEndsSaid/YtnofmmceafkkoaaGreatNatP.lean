/-
  Functions that the evaluator takes by their contracts: codec.Put, codec.Sum, strings.Repeat.
-/
import Derived.Test.YtnofmmceafkkoaaGreatCod
import Derived.Test.YtnofmmceafkkoaaGreatCodP
set_option linter.unusedVariables false
set_option linter.unusedSimpArgs false
namespace Go.Proofs.YtnofmmceafkkoaaGreat
open Go.RowKit
theorem nat_of {P : Program} {n : FuncId} {ρ : Vn} {φ : Emb} {h : Hp} {w : World} {us : Array Value} {v : AV} {u : Value} (hr : Rel ρ φ h w) (hv : VV ρ φ v u) (hc : Calls P n us w fun e w' => e = .returned u ∧ Below w.heap.size w w') :
    Calls P n us w fun e w' => ∃ u φ', e = .returned u ∧ VV ρ φ' v u ∧ Stp ρ φ h w φ' h w' := by
  refine hc.mono ?_
  rintro e w' ⟨rfl, b⟩
  exact ⟨u, φ, rfl, hv, hr.keepS b⟩
def putN (m : Nat) (k : Nat) : List Nat := @Nat.rec (fun _ => List Nat) [] (fun i l => l ++ [Nat.mod (Nat.div m (Nat.pow 2 (Nat.mul 8 i))) 256]) k
theorem putN_eq {m : Nat} (hm : m < 18446744073709551616) : ∀ k, putN m k = (putL (Int.ofNat m) k).map UInt8.toNat
  | 0 => rfl
  | k + 1 => by
    show putN m k ++ [m / 2 ^ (8 * k) % 256] = (putL (Int.ofNat m) k ++ [putB (Int.ofNat m) k]).map UInt8.toNat
    rw [putN_eq hm k, List.map_append]
    congr 1
    show [m / 2 ^ (8 * k) % 256] = [(putB (Int.ofNat m) k).toNat]
    have h := putB_cell (Int.ofNat m) k
    have hw : IntKind.u64.wrap (Int.ofNat m) = ((m : Nat) : Int) := by
      show IntKind.u64.wrap (m : Int) = m
      simp [IntKind.wrap, IntKind.bits, IntKind.signed]
      omega
    rw [hw] at h
    have e : ((m : Nat) : Int) / 2 ^ (8 * k) % 256 = ((m / 2 ^ (8 * k) % 256 : Nat) : Int) := by
      rw [Int.natCast_emod, Int.natCast_ediv, Int.natCast_pow]; rfl
    rw [e] at h
    rw [Int.ofNat_inj.1 h]
def putG (l : List Nat) (m k : Nat) : Option AV := bif Nat.ble l.length 1000000 && Nat.blt m 9223372036854775808 && Nat.ble 1 k && Nat.ble k 8 then some (.c (.s (l ++ putN m k))) else none
def natPut : List AV → Option AV
  | [.c (.s l), .c (.i .i64 (.ofNat m)), .c (.i .i64 (.ofNat k))] => putG l m k
  | _ => none
theorem natPut_ok {E : Env} : EntOk Tryz.prog E ⟨.x0, .xa, .x0⟩ (.nat natPut) := by
  refine ent_nat (n := 160) Tryz.func160 rfl rfl (by kernel_rfl) ?_
  intro vs v hv ρ φ h w us he hr hu
  unfold natPut at hv
  split at hv
  · rename_i l m k
    unfold putG at hv
    cases hb : (Nat.ble l.length 1000000 && Nat.blt m 9223372036854775808 && Nat.ble 1 k && Nat.ble k 8) with
    | false => rw [hb] at hv; cases hv
    | true =>
      rw [hb] at hv
      cases hv
      rw [Bool.and_eq_true, Bool.and_eq_true, Bool.and_eq_true] at hb
      have b1 := Nat.le_of_ble_eq_true hb.1.1.1
      have b2 : m < 9223372036854775808 := Nat.le_of_ble_eq_true hb.1.1.2
      have b3 := Nat.le_of_ble_eq_true hb.1.2
      have b4 := Nat.le_of_ble_eq_true hb.2
      cases hu with
      | cons a1 t1 =>
        cases t1 with
        | cons a2 t2 =>
          cases t2 with
          | cons a3 t3 =>
            cases t3
            obtain ⟨y, rfl, hy⟩ := a1
            cases (show _ = Value.int .i64 (Int.ofNat m) from a2)
            cases (show _ = Value.int .i64 (Int.ofNat k) from a3)
            have hys : y.size ≤ 1048576 := by
              have : y.data.toList.length = l.length := by rw [← hy, List.length_map]
              have h2 : y.size = y.data.toList.length := by simp
              omega
            refine nat_of hr (u := .string ⟨(y.data.toList ++ putL (Int.ofNat m) k).toArray⟩) ⟨_, rfl, ?_⟩ (put_walk y (Int.ofNat m) k w hys b3 b4)
            rw [putN_eq (by omega), ← hy, ← List.map_append]
  · cases hv
def crcTN : List Nat := [0, 274646895, 549293790, 820201905, 1098587580, 1361435347, 1640403810, 1905808397, 2197175160, 2460548119, 2722870694, 2987750089, 3280807620, 3553878443, 3811616794, 4084100981]
noncomputable def crc1N (x : Nat) : Nat := Option.casesOn (motive := fun _ => Nat) (lget (Nat.land x 15) crcTN) 0 fun t => Nat.xor (Nat.div x 16) t
noncomputable def crcStepN (b x : Nat) : Nat := crc1N (crc1N (Nat.xor x b))
noncomputable def crcLN (l : List Nat) : Nat → Nat := @List.rec Nat (fun _ => Nat → Nat) (fun x => x) (fun b _ ih x => ih (crcStepN b x)) l
theorem crcTN_ok : ∀ i, i < 16 → crcTN[i]? = some (crcN i) := by decide
theorem crc1N_eq (x : Nat) : crc1N x = crc1 x := by
  have h := crcTN_ok (x &&& 15) (Nat.and_lt_two_pow (n := 4) _ (by omega))
  unfold crc1N
  rw [lget_eq, show Nat.land x 15 = x &&& 15 from rfl, h]
  rfl
theorem crcLN_eq : ∀ (l : List UInt8) (x : Nat), crcLN (l.map UInt8.toNat) x = crcL x l
  | [], x => rfl
  | b :: l, x => by
    show crcLN (l.map UInt8.toNat) (crcStepN b.toNat x) = crcL (crcStep x b.toNat) l
    rw [crcLN_eq l]
    unfold crcStepN crcStep
    rw [crc1N_eq, crc1N_eq]
    rfl
noncomputable def natSum : List AV → Option AV
  | [.c (.s l)] => bif Nat.ble l.length 1000000 then some (.c (.i .u32 (Int.ofNat (Nat.xor 4294967295 (crcLN l 4294967295))))) else none
  | _ => none
theorem natSum_ok {E : Env} : EntOk Tryz.prog E ⟨.x0, .xa, .x3⟩ (.nat natSum) := by
  refine ent_nat (n := 163) Tryz.func163 rfl rfl (by kernel_rfl) ?_
  intro vs v hv ρ φ h w us he hr hu
  unfold natSum at hv
  split at hv
  · rename_i l
    cases hb : Nat.ble l.length 1000000 with
    | false => rw [hb] at hv; cases hv
    | true =>
      rw [hb] at hv
      cases hv
      have b1 := Nat.le_of_ble_eq_true hb
      cases hu with
      | cons a1 t1 =>
        cases t1
        obtain ⟨y, rfl, hy⟩ := a1
        have hys : y.size ≤ 1048576 := by
          have : y.data.toList.length = l.length := by rw [← hy, List.length_map]
          have h2 : y.size = y.data.toList.length := by simp
          omega
        refine nat_of hr (u := .int .u32 (crcF y.data.toList : Nat)) ?_ (sum_walk y w hys)
        show Value.int .u32 _ = .int .u32 _
        rw [← hy, crcLN_eq]
        rfl
  · cases hv
def repG (l : List Nat) (c : Nat) : List Nat := @Nat.rec (fun _ => List Nat) [] (fun _ r => l ++ r) c
theorem repG_eq (l : List UInt8) : ∀ c, repG (l.map UInt8.toNat) c = (Lib.repeatL l c).map UInt8.toNat
  | 0 => rfl
  | c + 1 => by
    show l.map UInt8.toNat ++ repG (l.map UInt8.toNat) c = _
    rw [repG_eq l c, ← List.map_append]
    rfl
def natRepeat : List AV → Option AV
  | [.c (.s l), .c (.i .i64 (.ofNat c))] => bif Nat.ble l.length 1000 && Nat.ble c 1000000 then some (.c (.s (repG l c))) else none
  | _ => none
theorem natRepeat_ok {E : Env} : EntOk Tryz.prog E ⟨.x0, .xa, .x2⟩ (.nat natRepeat) := by
  refine ent_nat (n := 162) Tryz.func162 rfl rfl (by kernel_rfl) ?_
  intro vs v hv ρ φ h w us he hr hu
  unfold natRepeat at hv
  split at hv
  · rename_i l c
    cases hb : (Nat.ble l.length 1000 && Nat.ble c 1000000) with
    | false => rw [hb] at hv; cases hv
    | true =>
      rw [hb] at hv
      cases hv
      rw [Bool.and_eq_true] at hb
      have b1 := Nat.le_of_ble_eq_true hb.1
      have b2 := Nat.le_of_ble_eq_true hb.2
      cases hu with
      | cons a1 t1 =>
        cases t1 with
        | cons a2 t2 =>
          cases t2
          obtain ⟨y, rfl, hy⟩ := a1
          cases (show _ = Value.int .i64 (Int.ofNat c) from a2)
          have hys : y.size ≤ 1000 := by
            have : y.data.toList.length = l.length := by rw [← hy, List.length_map]
            have h2 : y.size = y.data.toList.length := by simp
            omega
          have hm : y.size * c ≤ 1000 * 1000000 := Nat.mul_le_mul hys b2
          refine nat_of hr (u := .string ⟨(Lib.repeatL y.data.toList c).toArray⟩) ⟨_, rfl, ?_⟩ (Tryz.strings_Repeat y c w (by omega) (by omega))
          rw [← hy, repG_eq]
  · cases hv
end Go.Proofs.YtnofmmceafkkoaaGreat
