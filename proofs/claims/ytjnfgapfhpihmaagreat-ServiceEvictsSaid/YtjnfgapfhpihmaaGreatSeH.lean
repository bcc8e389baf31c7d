/-
  A contract over strings that are only named: codec.Get; calls that give plain values.
-/
import Derived.Test.YtjnfgapfhpihmaaGreatSeP
import Derived.Laws.BitsAllLaws
import Derived.Laws.BitsLemmas
import Derived.BigCall
import Derived.Lib.Hide
set_option linter.unusedVariables false
set_option linter.unusedSimpArgs false
section
namespace Go.Proofs.YtjnfgapfhpihmaaGreat
open Go.RowKit
theorem size_mk (l : List UInt8) : (ByteArray.mk l.toArray).size = l.length := by
  show l.toArray.size = _
  exact List.size_toArray ..
theorem size_list (s : ByteArray) : s.data.toList.length = s.size := by
  show _ = s.data.size
  exact Array.length_toList
theorem sz_put {ρ : Vn} (h : PP ρ) (s n : Nm) (k : Int) : (ρ.s (.f2 2001 s (.f2 2002 n (.num k)))).size = (ρ.s s).size + k.toNat := by
  rw [h.put, size_mk, List.length_append, putL_length, size_list]
theorem sz_rep {ρ : Vn} (h : PP ρ) (n : Nm) : (ρ.s (.f1 2003 n)).size = (ρ.i n).toNat := by
  rw [h.rep, size_mk, Lib.repeatL_length]; simp
theorem sz_cat {ρ : Vn} (h : StdF ρ) (s t : Nm) : (ρ.s (.f2 1430 s t)).size = (ρ.s s).size + (ρ.s t).size := by
  rw [h.scat, ByteArray.size_append]
def strLe (F : List Fc) (n : Nat) : AC → Bool
  | .s l => Nat.ble l.length n
  | .ss t => lenLe F t n
  | _ => false
theorem strLe_ok {F : List Fc} {ρ : Vn} (hs : StdF ρ) (hF : ∀ f ∈ F, f.holds QR ρ) {φ : Emb} {n : Nat} {c : AC} (e : strLe F n c = true) {t : Nm} (ht : nmS c = some t) {v : Value} (hv : VC ρ φ c v) : v = .string (ρ.s t) ∧ (ρ.s t).size ≤ n := by
  have hv' := nmS_ok hs.toStdA ht hv
  refine ⟨hv', ?_⟩
  cases c with
  | s l =>
    cases ht
    rw [hs.lit, size_mk, List.length_map]
    exact Nat.le_of_ble_eq_true e
  | ss y =>
    cases ht
    have e' : lenLe F t n = true := e
    unfold lenLe at e'
    split at e'
    · rename_i r hr
      have h1 := (rngF_ok hs hF hr).2
      rw [hs.slen] at h1
      have h2 := of_decide_eq_true e'
      omega
    · cases e'
  | _ => cases ht
def natPutS (F : List Fc) : List AV → Option AV
  | [.c s, .c n, .c (.i .i64 (.ofNat k))] => match nmS s, nmI n with
    | some t, some u => bif strLe F 1000 s && (isI64 u.1 && (Nat.ble 1 k && Nat.ble k 8)) then some (.c (.ss (.f2 2001 t (.f2 2002 u.2 (.num (.ofNat k)))))) else none
    | _, _ => none
  | _ => none
theorem natPutS_ok (F : List Fc) : NatOk Tryz.prog (envR F) 222 (natPutS F) := by
  intro vs v hv ρ φ h w us he hr hu
  have hp := envR_prop he
  unfold natPutS at hv
  split at hv
  · rename_i s n k
    split at hv
    · rename_i t u ht htu
      cases hb : (strLe F 1000 s && (isI64 u.1 && (Nat.ble 1 k && Nat.ble k 8))) with
      | false => rw [hb] at hv; cases hv
      | true =>
        rw [hb] at hv
        cases hv
        simp only [Bool.and_eq_true] at hb
        obtain ⟨b1, b2, b3, b4⟩ := hb
        cases hu with
        | cons a1 t1 =>
          cases t1 with
          | cons a2 t2 =>
            cases t2 with
            | cons a3 t3 =>
              cases t3
              obtain ⟨rfl, hsz⟩ := strLe_ok hp.1 hp.2 b1 ht a1
              have e2 := nmI_ok hp.1.toStdA htu a2
              rw [isI64_eq b2] at e2
              subst e2
              cases (show _ = Value.int .i64 (Int.ofNat k) from a3)
              refine nat_of hr (u := .string ⟨((ρ.s t).data.toList ++ putL (ρ.i u.2) k).toArray⟩) ?_ (put_walk (ρ.s t) (ρ.i u.2) k w (by omega) (Nat.le_of_ble_eq_true b3) (Nat.le_of_ble_eq_true b4))
              show Value.string _ = .string (ρ.s _)
              rw [(envR_pp he).put]
              rfl
    · cases hv
  · cases hv
def natRepS (F : List Fc) : List AV → Option AV
  | [.c (.s [n0]), .c n] => match nmI n with
    | some u => bif Nat.beq n0 0 && numIn F n 0 1000 then some (.c (.ss (.f1 2003 u.2))) else none
    | none => none
  | _ => none
theorem natRepS_ok (F : List Fc) : NatOk Tryz.prog (envR F) 48 (natRepS F) := by
  intro vs v hv ρ φ h w us he hr hu
  have hp := envR_prop he
  unfold natRepS at hv
  split at hv
  · rename_i n0 n
    split at hv
    · rename_i u htu
      cases hb : (Nat.beq n0 0 && numIn F n 0 1000) with
      | false => rw [hb] at hv; cases hv
      | true =>
        rw [hb] at hv
        cases hv
        rw [Bool.and_eq_true] at hb
        cases Nat.eq_of_beq_eq_true hb.1
        cases hu with
        | cons a1 t1 =>
          cases t1 with
          | cons a2 t2 =>
            cases t2
            obtain ⟨y, rfl, hy⟩ := a1
            obtain ⟨m, rfl, m1, m2⟩ := numIn_ok hp.1 hp.2 hb.2 a2
            have e2 := nmI_ok hp.1.toStdA htu a2
            have e3 : m = ρ.i u.2 := by injection e2
            obtain ⟨c, hc⟩ := Int.eq_ofNat_of_zero_le m1
            subst hc
            have hy2 : y = ⟨#[0]⟩ := by
              cases y with | mk a => cases a with | mk q =>
              have hq : q.map UInt8.toNat = [0] := hy
              cases q with
              | nil => cases hq
              | cons x q =>
                cases q with
                | nil =>
                  have : x.toNat = 0 := by simpa using hq
                  have : x = 0 := UInt8.toNat_inj.1 (by simpa using this)
                  rw [this]
                | cons z q => simp at hq
            subst hy2
            refine nat_of hr (u := .string ⟨(Lib.repeatL [0] c).toArray⟩) ?_ (Tryz.strings_Repeat ⟨#[0]⟩ c w (by omega) (by show 1 * c ≤ _; omega))
            show Value.string _ = .string (ρ.s _)
            rw [(envR_pp he).rep, ← e3]
            rfl
    · cases hv
  · cases hv
def natSumS (F : List Fc) : List AV → Option AV
  | [.c (.ss t)] => bif strLe F 1000 (.ss t) then some (.c (.si .u32 (.f1 2004 t))) else none
  | _ => none
theorem natSumS_ok (F : List Fc) : NatOk Tryz.prog (envR F) 224 (natSumS F) := by
  intro vs v hv ρ φ h w us he hr hu
  have hp := envR_prop he
  unfold natSumS at hv
  split at hv
  · rename_i t
    cases hb : strLe F 1000 (.ss t) with
    | false => rw [hb] at hv; cases hv
    | true =>
      rw [hb] at hv
      cases hv
      cases hu with
      | cons a1 t1 =>
        cases t1
        obtain ⟨rfl, hsz⟩ := strLe_ok (φ := φ) hp.1 hp.2 hb rfl a1
        refine nat_of hr (u := .int .u32 (crcF (ρ.s t).data.toList : Nat)) ?_ (sum_walk (ρ.s t) w (by omega))
        show Value.int .u32 _ = .int .u32 (ρ.i _)
        rw [(envR_pp he).sum]
  · cases hv
end Go.Proofs.YtjnfgapfhpihmaaGreat
end
section
namespace Go.Proofs.YtjnfgapfhpihmaaGreat
open Go.RowKit
theorem getL_append : ∀ (l : List UInt8) (b : UInt8), getL (l ++ [b]) = getL l + b.toNat * 2 ^ (8 * l.length)
  | [], b => by simp [getL]
  | x :: l, b => by
    show x.toNat + 256 * getL (l ++ [b]) = x.toNat + 256 * getL l + b.toNat * 2 ^ (8 * (l.length + 1))
    rw [getL_append l b, Nat.mul_add 8, Nat.pow_add]
    have : b.toNat * (2 ^ (8 * l.length) * 2 ^ (8 * 1)) = 256 * (b.toNat * 2 ^ (8 * l.length)) := by
      rw [Nat.mul_comm (2 ^ (8 * l.length)), ← Nat.mul_assoc, Nat.mul_comm b.toNat, Nat.mul_assoc]
    omega
theorem getL_lt : ∀ (l : List UInt8), getL l < 2 ^ (8 * l.length)
  | [] => by decide
  | x :: l => by
    show x.toNat + 256 * getL l < 2 ^ (8 * (l.length + 1))
    have := getL_lt l
    have hx := x.toNat_lt
    rw [Nat.mul_add 8, Nat.pow_add]
    omega
set_option maxHeartbeats 4000000 in
set_option maxRecDepth 1000000 in
theorem get_walk (s : ByteArray) (at' k : Nat) (w : World) (hs : s.size ≤ 1048576) (hk1 : 1 ≤ k) (hk8 : k ≤ 8) (hat : at' + k ≤ s.size) (hv : getL ((s.data.toList.drop at').take k) < 9223372036854775808) :
    Calls Tryz.prog 303 #[.string s, .int .i64 at', .int .i64 k] w fun e w' => e = .returned (.tuple #[.int .i64 (gtF s at' k), .int .i64 0]) ∧ w' = w := by
  go_enter Tryz.func303, Tryz.ntmps303
  have hlt1 : ¬ ((k : Int) < 1) := by omega
  have hgt8 : ¬ ((8 : Int) < k) := by omega
  have hat0 : ¬ ((at' : Int) < 0) := by omega
  have hat1 : ¬ ((s.size : Int) < at') := by omega
  have hat2 : ¬ ((s.size : Int) - at' < k) := by omega
  go_wp2
  go_loop [8, 35] (fun r i => ∃ (j : Nat), j ≤ k ∧ i = .int .i64 j ∧ r = .int .u64 (getL ((s.data.toList.drop at').take j) : Nat)) (fun _ i => k - (intOf i).toNat)
  case atStart => exact ⟨0, by omega, rfl, rfl⟩
  case round =>
    obtain ⟨j, hj, rfl, rfl⟩ := hrel
    by_cases hlt : (j : Int) < k
    · have hjk : j < k := by omega
      have hjs : at' + j < s.size := by omega
      have hlen : (s.data.toList.drop at').length = s.size - at' := by rw [List.length_drop, size_list]
      have hget : (s.data.toList.drop at')[j]? = some s[at' + j] := by
        rw [List.getElem?_drop, Array.getElem?_toList]
        exact Array.getElem?_eq_getElem hjs
      have htk : (s.data.toList.drop at').take (j + 1) = (s.data.toList.drop at').take j ++ [s[at' + j]] := by rw [List.take_add_one, hget]; rfl
      have hN := getL_lt ((s.data.toList.drop at').take j)
      have hlj : ((s.data.toList.drop at').take j).length = j := by rw [List.length_take, hlen]; omega
      rw [hlj] at hN
      have hb := s[at' + j].toNat_lt
      have hg : getL ((s.data.toList.drop at').take (j + 1)) = getL ((s.data.toList.drop at').take j) + s[at' + j].toNat * 2 ^ (8 * j) := by rw [htk, getL_append, hlj]
      have hp : 2 ^ (8 * j) * 256 ≤ 18446744073709551616 := by
        have : j ≤ 7 := by omega
        calc 2 ^ (8 * j) * 256 ≤ 2 ^ 56 * 256 := Nat.mul_le_mul_right _ (Nat.pow_le_pow_right (by decide) (by omega))
          _ = _ := by decide
      have hm : s[at' + j].toNat * 2 ^ (8 * j) < 18446744073709551616 := by
        have : s[at' + j].toNat * 2 ^ (8 * j) ≤ 255 * 2 ^ (8 * j) := Nat.mul_le_mul_right _ (by omega)
        omega
      have e1 : IntKind.u64.wrap (IntKind.u64.wrap (s[at' + j].toNat : Int) * 2 ^ (8 * j)) = ((s[at' + j].toNat * 2 ^ (8 * j) : Nat) : Int) := by
        rw [IntKind.wrap_u64, IntKind.wrap_u64, Int.emod_eq_of_lt (a := (s[at' + j].toNat : Int)) (by omega) (by omega)]
        rw [show ((s[at' + j].toNat : Int) * 2 ^ (8 * j)) = ((s[at' + j].toNat * 2 ^ (8 * j) : Nat) : Int) by push_cast; rfl]
        exact Int.emod_eq_of_lt (by omega) (by omega)
      have e2 : bits .or .u64 (getL ((s.data.toList.drop at').take j) : Nat) ((s[at' + j].toNat * 2 ^ (8 * j) : Nat) : Int) = ((getL ((s.data.toList.drop at').take (j + 1)) : Nat) : Int) := by
        rw [u64_or_nat _ _ (by omega) hm, hg, Nat.or_comm, Nat.mul_comm, ← Nat.two_pow_add_eq_or_of_lt hN, Nat.add_comm]
      rw [← e1] at e2
      have hE := Lib.hid e2
      clear e1 e2 hm hp hb hg hN htk hget
      go_wp2
      refine ⟨⟨j + 1, by omega, by go_num, ?_⟩, by simp [intOf]; omega⟩
      rw [show bits .or .u64 _ _ = _ from hE]
    · have hjk : j = k := by omega
      subst hjk
      go_wp2
      refine ⟨rfl, .tuple #[.int .i64 (gtF s at' j), .int .i64 0], ?_, rfl, rfl⟩
      have e1 : IntKind.i64.wrap ((getL ((s.data.toList.drop at').take j) : Nat) : Int) = ((getL ((s.data.toList.drop at').take j) : Nat) : Int) := by
        rw [IntKind.wrap_i64]
        omega
      simp [results, Tryz.f303, e1, gtF]
end Go.Proofs.YtjnfgapfhpihmaaGreat
end
section
set_option maxRecDepth 20000
namespace Go.Proofs.YtjnfgapfhpihmaaGreat
open Go.RowKit
theorem putB_nat {m : Nat} (hm : m < 18446744073709551616) (k : Nat) : (putB (m : Int) k).toNat = m / 2 ^ (8 * k) % 256 := by
  have h := putB_cell (m : Int) k
  have hw : IntKind.u64.wrap (m : Int) = m := by rw [IntKind.wrap_u64]; omega
  rw [hw] at h
  have e : ((m : Nat) : Int) / 2 ^ (8 * k) % 256 = ((m / 2 ^ (8 * k) % 256 : Nat) : Int) := by rw [Int.natCast_emod, Int.natCast_ediv, Int.natCast_pow]; rfl
  rw [e] at h
  exact Int.ofNat_inj.1 h
theorem getL_putL {m : Nat} (hm : m < 18446744073709551616) : ∀ k, getL (putL (m : Int) k) = m % 2 ^ (8 * k)
  | 0 => by simp [putL, getL, Nat.mod_one]
  | k + 1 => by
    show getL (putL (m : Int) k ++ [putB (m : Int) k]) = _
    rw [getL_append, getL_putL hm k, putL_length, putB_nat hm, Nat.mul_add 8 k 1, Nat.pow_add, Nat.mod_mul, Nat.mul_comm (m / 2 ^ (8 * k) % 256)]
theorem ba_eq {a b : ByteArray} (h : a.data.toList = b.data.toList) : a = b := by
  cases a with | mk a => cases b with | mk b => cases a with | mk a => cases b with | mk b => cases h; rfl
theorem ext_list (s : ByteArray) (a b : Nat) : (s.extract a b).data.toList = (s.data.toList.drop a).take (b - a) := by
  rw [ByteArray.data_extract, Array.toList_extract]
  try simp [List.extract]
theorem seq_eq {a b : ByteArray} (h : a = b) : (a.toList == b.toList) = true := by rw [h]; exact beq_self_eq_true _
theorem seq_ne {a b : ByteArray} (h : a.data.toList ≠ b.data.toList) : (a.toList == b.toList) = false := by
  rw [ByteArray.toList_eq, ByteArray.toList_eq]
  exact beq_false_of_ne h
def encG (a b c q : List UInt8) : List UInt8 := a ++ b ++ noCs 7 ++ (1 :: c ++ List.replicate 11 0) ++ noCs 8 ++ List.replicate 24 0 ++ q ++ a
def b8 (f : Nat → UInt8) : List UInt8 := [f 0, f 1, f 2, f 3, f 4, f 5, f 6, f 7]
def b4 (f : Nat → UInt8) : List UInt8 := [f 0, f 1, f 2, f 3]
theorem put8 (n : Int) : putL n 8 = b8 (putB n) := rfl
theorem put4 (n : Int) : putL n 4 = b4 (putB n) := rfl
theorem encL_eq (id lsn : Int) (c : List UInt8) : encL id lsn c = encG (b8 (putB lsn)) (b4 (putB id)) c (b4 (putB (crcF (preL id lsn c) : Nat))) := by
  unfold encL
  rw [put4, put8]
  generalize b4 (putB (crcF (preL id lsn c) : Nat)) = q
  unfold preL encG
  rw [put8, put4]
section
variable (f g r : Nat → UInt8) (y : UInt8)
theorem encG_len : (encG (b8 f) (b4 g) [y] (b4 r)).length = 256 := rfl
theorem encG_lsn : ((encG (b8 f) (b4 g) [y] (b4 r)).drop 0).take 8 = b8 f := rfl
theorem encG_tail : ((encG (b8 f) (b4 g) [y] (b4 r)).drop 248).take 8 = b8 f := rfl
theorem encG_id : ((encG (b8 f) (b4 g) [y] (b4 r)).drop 8).take 4 = b4 g := rfl
theorem encG_sum : ((encG (b8 f) (b4 g) [y] (b4 r)).drop 244).take 4 = b4 r := rfl
theorem encG_pre : ((encG (b8 f) (b4 g) [y] (b4 r)).drop 0).take 244 = b8 f ++ b4 g ++ noCs 7 ++ (1 :: [y] ++ List.replicate 11 0) ++ noCs 8 ++ List.replicate 24 0 := rfl
theorem encG_one : ((encG (b8 f) (b4 g) [y] (b4 r)).drop 103).take 1 = [1] := rfl
theorem encG_byte : ((encG (b8 f) (b4 g) [y] (b4 r)).drop 104).take 1 = [y] := rfl
theorem encG_12 : (encG (b8 f) (b4 g) [y] (b4 r))[12]? = some 255 := rfl
theorem encG_no : ∀ i, i < 16 → i ≠ 7 → ((encG (b8 f) (b4 g) [y] (b4 r)).drop (12 + 13 * i)).take 1 = [255]
  | 0, _, _ => rfl
  | 1, _, _ => rfl
  | 2, _, _ => rfl
  | 3, _, _ => rfl
  | 4, _, _ => rfl
  | 5, _, _ => rfl
  | 6, _, _ => rfl
  | 7, _, h => absurd rfl h
  | 8, _, _ => rfl
  | 9, _, _ => rfl
  | 10, _, _ => rfl
  | 11, _, _ => rfl
  | 12, _, _ => rfl
  | 13, _, _ => rfl
  | 14, _, _ => rfl
  | 15, _, _ => rfl
  | i + 16, h, _ => absurd h (by omega)
end
theorem one_list {d : ByteArray} (h : d.size = 1) : ∃ y, d.data.toList = [y] := by
  rw [← size_list] at h
  exact List.length_eq_one_iff.1 h
end Go.Proofs.YtjnfgapfhpihmaaGreat
end
section
namespace Go.Proofs.YtjnfgapfhpihmaaGreat
open Go.RowKit
def TV.beq : TV → TV → Bool
  | .c x, .c y => decide (x = y)
  | .a l, .a m => decide (l = m)
  | _, _ => false
theorem TV.beq_ok {x y : TV} (h : TV.beq x y = true) : x = y := by
  cases x <;> cases y <;> first | (exact absurd h Bool.false_ne_true) | (have h2 : decide _ = true := h; rw [of_decide_eq_true h2])
def beqs : List TV → List TV → Bool
  | [], [] => true
  | x :: l, y :: m => TV.beq x y && beqs l m
  | _, _ => false
theorem beqs_ok : ∀ {l m : List TV}, beqs l m = true → l = m
  | [], [], _ => rfl
  | x :: l, y :: m, h => by
    have h' := (Bool.and_eq_true _ _ ▸ h : TV.beq x y = true ∧ beqs l m = true)
    rw [TV.beq_ok h'.1, beqs_ok h'.2]
  | [], _ :: _, h => by cases h
  | _ :: _, [], h => by cases h
theorem TV.beq_refl (x : TV) : TV.beq x x = true := by cases x <;> exact decide_eq_true rfl
theorem beqs_refl : ∀ l : List TV, beqs l l = true
  | [] => rfl
  | x :: l => by
    show (TV.beq x x && beqs l l) = true
    rw [TV.beq_refl, beqs_refl l]; rfl
def isRet (l : List TV) (r : RO) : Bool := match r with
  | .ok (.t m) _ => beqs m l
  | _ => false
theorem isRet_ok {l : List TV} {r : RO} (h : isRet l r = true) : ∃ h', r = .ok (.t l) h' := by
  unfold isRet at h
  split at h
  · rename_i m h'
    rw [beqs_ok h]
    exact ⟨h', rfl⟩
  · cases h
theorem ret_run {P : Program} {E : Env} {call : CallF} {ρ : Vn} (hC : CallOk P E call) (he : EnvOk E ρ) {f : Bid} {args : List AV} {us : List Value} {l : List TV} (hrun : isRet l (call f args hp0) = true) (hargs : All2 (VV ρ (Emb.nil ρ.z)) args us) (w : World) (hz : ∀ b x, ρ.z b = some x → w.heap[b]? = some x) : Calls P f.num us.toArray w fun e w' => (∃ u φ', e = .returned u ∧ VV ρ φ' (.t l) u) ∧ Below w.heap.size w w' := by
  obtain ⟨h', h1⟩ := isRet_ok hrun
  refine ((hC f args hp0 _ h' h1).2 ρ _ w us he (rel0 ρ w hz) hargs).mono ?_
  rintro e w' ⟨u, φ', rfl, hv, T⟩
  exact ⟨⟨u, φ', rfl, hv⟩, T.old⟩
def strIn (F : List Fc) (n : Int) (t : Nm) : Bool := match rngF F (.f1 6 t) with
  | some r => decide (n ≤ r.1) && decide (r.2 ≤ 1000)
  | none => false
theorem strIn_ok {F : List Fc} {ρ : Vn} (hs : StdF ρ) (hF : ∀ f ∈ F, f.holds QR ρ) {n : Int} {t : Nm} (e : strIn F n t = true) : n ≤ (ρ.s t).size ∧ (ρ.s t).size ≤ 1000 := by
  unfold strIn at e
  split at e
  · rename_i r hr
    have h1 := rngF_ok hs hF hr
    rw [hs.slen] at h1
    simp only [Bool.and_eq_true, decide_eq_true_eq] at e
    omega
  · cases e
def lt63 (F : List Fc) (t : Nm) : Bool := match rngF F t with
  | some r => decide (r.2 ≤ 9223372036854775807)
  | none => false
def gtN (t : Nm) (a k : Nat) : Nm := .f2 3010 t (.f2 2002 (.num (.ofNat a)) (.num (.ofNat k)))
def natGet (F : List Fc) : List AV → Option AV
  | [.c (.ss t), .c (.i .i64 (.ofNat a)), .c (.i .i64 (.ofNat k))] => bif strIn F (.ofNat (a + k)) t && ((Nat.ble 1 k && Nat.ble k 8) && (Nat.ble k 7 || lt63 F (gtN t a k))) then some (.t [.c (conF F .i64 (gtN t a k)), .c (.i .i64 (.ofNat 0))]) else none
  | _ => none
theorem natGet_ok (F : List Fc) : NatOk Tryz.prog (envR F) 303 (natGet F) := by
  intro vs v hv ρ φ h w us he hr hu
  have hp := envR_prop he
  unfold natGet at hv
  split at hv
  · rename_i t a k
    cases hb : (strIn F (.ofNat (a + k)) t && ((Nat.ble 1 k && Nat.ble k 8) && (Nat.ble k 7 || lt63 F (gtN t a k)))) with
    | false => rw [hb] at hv; cases hv
    | true =>
      rw [hb] at hv
      cases hv
      rw [Bool.and_eq_true, Bool.and_eq_true, Bool.and_eq_true, Bool.or_eq_true] at hb
      obtain ⟨b1, ⟨b2, b3⟩, b4⟩ := hb
      obtain ⟨z1, z2⟩ := strIn_ok hp.1 hp.2 b1
      have z1 : ((a + k : Nat) : Int) ≤ (ρ.s t).size := z1
      have b2 := Nat.le_of_ble_eq_true b2
      have b3 := Nat.le_of_ble_eq_true b3
      have eg : ρ.i (gtN t a k) = gtF (ρ.s t) a k := (envR_pp he).gt t _ _
      have hlt : getL (((ρ.s t).data.toList.drop a).take k) < 9223372036854775808 := by
        rcases b4 with b4 | b4
        · have h1 := getL_lt (((ρ.s t).data.toList.drop a).take k)
          have h2 : (((ρ.s t).data.toList.drop a).take k).length ≤ 7 := by
            have := List.length_take_le k ((ρ.s t).data.toList.drop a)
            have := Nat.le_of_ble_eq_true b4
            omega
          have h3 : 2 ^ (8 * (((ρ.s t).data.toList.drop a).take k).length) ≤ 2 ^ 56 := Nat.pow_le_pow_right (by decide) (by omega)
          have h4 : (2 : Nat) ^ 56 < 9223372036854775808 := by decide
          omega
        · unfold lt63 at b4
          split at b4
          · rename_i r hr
            have h1 := (rngF_ok hp.1 hp.2 hr).2
            rw [eg] at h1
            have h2 := of_decide_eq_true b4
            have h3 : ((getL (((ρ.s t).data.toList.drop a).take k) : Nat) : Int) ≤ r.2 := h1
            omega
          · cases b4
      cases hu with
      | cons a1 t1 =>
        cases t1 with
        | cons a2 t2 =>
          cases t2 with
          | cons a3 t3 =>
            cases t3
            cases (show _ = Value.string (ρ.s t) from a1)
            cases (show _ = Value.int .i64 (Int.ofNat a) from a2)
            cases (show _ = Value.int .i64 (Int.ofNat k) from a3)
            refine nat_of hr (u := .tuple #[.int .i64 (gtF (ρ.s t) a k), .int .i64 0]) ⟨[_, _], rfl, .cons ?_ (.cons rfl .nil)⟩ ((get_walk (ρ.s t) a k w (by omega) b2 b3 (by omega) hlt).mono ?_)
            · have := conF_ok (φ := φ) hp.1 hp.2 .i64 (gtN t a k)
              rw [eg] at this
              exact this
            · rintro e w' ⟨rfl, rfl⟩
              exact ⟨rfl, Below.refl _ _⟩
  · cases hv
end Go.Proofs.YtjnfgapfhpihmaaGreat
end
