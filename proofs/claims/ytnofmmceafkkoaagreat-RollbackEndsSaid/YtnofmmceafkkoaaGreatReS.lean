/-
  Contracts over strings that are only named: codec.Put, strings.Repeat, codec.Sum; calls by a law over their pieces.
-/
import Derived.Test.YtnofmmceafkkoaaGreatReP
set_option linter.unusedVariables false
set_option linter.unusedSimpArgs false
namespace Go.Proofs.YtnofmmceafkkoaaGreat
open Go.RowKit
theorem size_mk (l : List UInt8) : (ByteArray.mk l.toArray).size = l.length := by
  show l.toArray.size = _
  exact List.size_toArray ..
theorem size_list (s : ByteArray) : s.data.toList.length = s.size := by
  show _ = s.data.size
  exact Array.length_toList
theorem sz_put {ρ : Vn} (h : PP ρ) (s n : Nm) (k : Int) : (ρ.s (.f2 2001 s (.f2 2002 n (.num k)))).size = (ρ.s s).size + k.toNat := by
  rw [h.put, size_mk, List.length_append, putL_length, size_list]
theorem sz_rep {ρ : Vn} (h : PP ρ) (n : Nm) : (ρ.s (.f1 2003 n)).size = (ρ.i n).toNat := by
  rw [h.rep, size_mk, Lib.repeatL_length]; simp
theorem sz_cat {ρ : Vn} (h : StdF ρ) (s t : Nm) : (ρ.s (.f2 1430 s t)).size = (ρ.s s).size + (ρ.s t).size := by
  rw [h.scat, ByteArray.size_append]
def strLe (F : List Fc) (n : Nat) : AC → Bool
  | .s l => Nat.ble l.length n
  | .ss t => lenLe F t n
  | _ => false
theorem strLe_ok {F : List Fc} {ρ : Vn} (hs : StdF ρ) (hF : ∀ f ∈ F, f.holds QR ρ) {φ : Emb} {n : Nat} {c : AC} (e : strLe F n c = true) {t : Nm} (ht : nmS c = some t) {v : Value} (hv : VC ρ φ c v) : v = .string (ρ.s t) ∧ (ρ.s t).size ≤ n := by
  have hv' := nmS_ok hs.toStdA ht hv
  refine ⟨hv', ?_⟩
  cases c with
  | s l =>
    cases ht
    rw [hs.lit, size_mk, List.length_map]
    exact Nat.le_of_ble_eq_true e
  | ss y =>
    cases ht
    have e' : lenLe F t n = true := e
    unfold lenLe at e'
    split at e'
    · rename_i r hr
      have h1 := (rngF_ok hs hF hr).2
      rw [hs.slen] at h1
      have h2 := of_decide_eq_true e'
      omega
    · cases e'
  | _ => cases ht
def natPutS (F : List Fc) : List AV → Option AV
  | [.c s, .c n, .c (.i .i64 (.ofNat k))] => match nmS s, nmI n with
    | some t, some u => bif strLe F 1000 s && (isI64 u.1 && (Nat.ble 1 k && Nat.ble k 8)) then some (.c (.ss (.f2 2001 t (.f2 2002 u.2 (.num (.ofNat k)))))) else none
    | _, _ => none
  | _ => none
theorem natPutS_ok (F : List Fc) : NatOk Tryz.prog (envR F) 160 (natPutS F) := by
  intro vs v hv ρ φ h w us he hr hu
  have hp := envR_prop he
  unfold natPutS at hv
  split at hv
  · rename_i s n k
    split at hv
    · rename_i t u ht htu
      cases hb : (strLe F 1000 s && (isI64 u.1 && (Nat.ble 1 k && Nat.ble k 8))) with
      | false => rw [hb] at hv; cases hv
      | true =>
        rw [hb] at hv
        cases hv
        simp only [Bool.and_eq_true] at hb
        obtain ⟨b1, b2, b3, b4⟩ := hb
        cases hu with
        | cons a1 t1 =>
          cases t1 with
          | cons a2 t2 =>
            cases t2 with
            | cons a3 t3 =>
              cases t3
              obtain ⟨rfl, hsz⟩ := strLe_ok hp.1 hp.2 b1 ht a1
              have e2 := nmI_ok hp.1.toStdA htu a2
              rw [isI64_eq b2] at e2
              subst e2
              cases (show _ = Value.int .i64 (Int.ofNat k) from a3)
              refine nat_of hr (u := .string ⟨((ρ.s t).data.toList ++ putL (ρ.i u.2) k).toArray⟩) ?_ (put_walk (ρ.s t) (ρ.i u.2) k w (by omega) (Nat.le_of_ble_eq_true b3) (Nat.le_of_ble_eq_true b4))
              show Value.string _ = .string (ρ.s _)
              rw [(envR_pp he).put]
              rfl
    · cases hv
  · cases hv
def natRepS (F : List Fc) : List AV → Option AV
  | [.c (.s [n0]), .c n] => match nmI n with
    | some u => bif Nat.beq n0 0 && numIn F n 0 1000 then some (.c (.ss (.f1 2003 u.2))) else none
    | none => none
  | _ => none
theorem natRepS_ok (F : List Fc) : NatOk Tryz.prog (envR F) 162 (natRepS F) := by
  intro vs v hv ρ φ h w us he hr hu
  have hp := envR_prop he
  unfold natRepS at hv
  split at hv
  · rename_i n0 n
    split at hv
    · rename_i u htu
      cases hb : (Nat.beq n0 0 && numIn F n 0 1000) with
      | false => rw [hb] at hv; cases hv
      | true =>
        rw [hb] at hv
        cases hv
        rw [Bool.and_eq_true] at hb
        cases Nat.eq_of_beq_eq_true hb.1
        cases hu with
        | cons a1 t1 =>
          cases t1 with
          | cons a2 t2 =>
            cases t2
            obtain ⟨y, rfl, hy⟩ := a1
            obtain ⟨m, rfl, m1, m2⟩ := numIn_ok hp.1 hp.2 hb.2 a2
            have e2 := nmI_ok hp.1.toStdA htu a2
            have e3 : m = ρ.i u.2 := by injection e2
            obtain ⟨c, hc⟩ := Int.eq_ofNat_of_zero_le m1
            subst hc
            have hy2 : y = ⟨#[0]⟩ := by
              cases y with | mk a => cases a with | mk q =>
              have hq : q.map UInt8.toNat = [0] := hy
              cases q with
              | nil => cases hq
              | cons x q =>
                cases q with
                | nil =>
                  have : x.toNat = 0 := by simpa using hq
                  have : x = 0 := UInt8.toNat_inj.1 (by simpa using this)
                  rw [this]
                | cons z q => simp at hq
            subst hy2
            refine nat_of hr (u := .string ⟨(Lib.repeatL [0] c).toArray⟩) ?_ (Tryz.strings_Repeat ⟨#[0]⟩ c w (by omega) (by show 1 * c ≤ _; omega))
            show Value.string _ = .string (ρ.s _)
            rw [(envR_pp he).rep, ← e3]
            rfl
    · cases hv
  · cases hv
def natSumS (F : List Fc) : List AV → Option AV
  | [.c (.ss t)] => bif strLe F 1000 (.ss t) then some (.c (.si .u32 (.f1 2004 t))) else none
  | _ => none
theorem natSumS_ok (F : List Fc) : NatOk Tryz.prog (envR F) 163 (natSumS F) := by
  intro vs v hv ρ φ h w us he hr hu
  have hp := envR_prop he
  unfold natSumS at hv
  split at hv
  · rename_i t
    cases hb : strLe F 1000 (.ss t) with
    | false => rw [hb] at hv; cases hv
    | true =>
      rw [hb] at hv
      cases hv
      cases hu with
      | cons a1 t1 =>
        cases t1
        obtain ⟨rfl, hsz⟩ := strLe_ok (φ := φ) hp.1 hp.2 hb rfl a1
        refine nat_of hr (u := .int .u32 (crcF (ρ.s t).data.toList : Nat)) ?_ (sum_walk (ρ.s t) w (by omega))
        show Value.int .u32 _ = .int .u32 (ρ.i _)
        rw [(envR_pp he).sum]
  · cases hv
theorem law_val {P : Program} {f : FuncId} {fn : Func} {ac : ACd} {res : List AR} (hf : P.funcs[f]? = some fn) (hc : cFn P fn = some (.code ac res)) {args : List AV} {us : List Value} {s0 : Lit} (hs : ∃ fr, frameOf args places Fr.nil = some fr ∧ s0.frame = fr) (h0 : s0.hp = hp0)
    {ρ : Vn} (hargs : All2 (VV ρ (Emb.nil ρ.z)) args us) (w : World) (hz : ∀ b x, ρ.z b = some x → w.heap[b]? = some x) {v : AV}
    (ht : Tri P fn.ntmps ac (At w fn.ntmps ρ s0) fun e a w' => e = .ret ∧ ∃ ρ' s' hh, retOf res s'.frame s'.hp = .ok v hh ∧ At w fn.ntmps ρ' s' a w') : Calls P f us.toArray w fun e w' => (∃ u ρ' φ', e = .returned u ∧ VV ρ' φ' v u) ∧ Below w.heap.size w w' := by
  unfold cFn at hc
  cases hb : fn.body with
  | none => rw [hb] at hc; cases hc
  | some c =>
  rw [hb] at hc
  dsimp only at hc
  split at hc
  · rename_i b' r' h1 h2
    cases hc
    obtain ⟨fr, hfr, hsf⟩ := hs
    refine calls_of_wp hf hb ?_
    have hframe : FR ρ (Emb.nil ρ.z) fr (us.toArray ++ Array.replicate (fn.ntmps - us.toArray.size) undef) := by
      refine frame_ok (k := 0) hargs (fun i p hp => by rw [Nat.zero_add]; exact places_tn i p hp) (fun i u hiu => ?_) (fun i j x hx => by rw [getF_nil] at hx; cases hx) hfr
      have hlt := (List.getElem?_eq_some_iff.1 hiu).1
      rw [Nat.zero_add, Array.getElem?_append_left (by simpa using hlt)]
      simpa using hiu
    have hsz : fn.ntmps ≤ (us.toArray ++ Array.replicate (fn.ntmps - us.toArray.size) undef).size := by simp; omega
    refine wp_mono (ht c h1 { tmps := us.toArray ++ Array.replicate (fn.ntmps - us.toArray.size) undef, defers := [] } w ⟨Emb.nil ρ.z, by rw [hsf]; exact hframe, by rw [h0]; exact rel0 ρ w hz, ?_, rfl, hsz⟩) ?_
    · rw [h0]
      exact ⟨fun _ _ => rfl, Nat.le_refl _, rfl, rfl, rfl, fun id x hi => by rw [hp0_get] at hi; cases hi⟩
    · rintro e a' w' ⟨_, rfl, ρ', s', hh, hret, φ', q1, q2, q3, q4, q5⟩
      obtain ⟨rfl, u, q6, q7⟩ := results_ok q1 q2 h2 hret
      exact ⟨q4, u, q6, ⟨u, ρ', φ', rfl, q7⟩, q3.below⟩
  · cases hc
end Go.Proofs.YtnofmmceafkkoaaGreat
