/-
  KernelPlays: awake, a closed run.
-/
import Derived.Test.YtgjindhjgmplgaaGreatKzX
set_option linter.unusedVariables false
set_option linter.unusedSimpArgs false
set_option maxRecDepth 100000
namespace Go.Proofs.YtgjindhjgmplgaaGreat
open Wp
theorem sub_ok {P : Program} {T T' : Ct} (h : CtOk P T) (hs : ∀ f g, look f T' = some g → look f T = some g) : CtOk P T' := fun f g e => h f g (hs f g e)
def awT : Ct := [(56, insG shTx 80), (57, cloneG shTx 80), (120, insG shG 32), (165, cloneG shG 32)]
noncomputable def gRq (rs : List Row) (k : V → Prop) : Prop := match rs with
  | [a, b] => bif rowB a (lkR [] []) && rowB b (gR ⟨1, 1, 0, 1⟩) then k (.t [.r shLk (lkR [⟨1, 1, 0, 1⟩] []), .c (.b true), .c (.i .i64 0)]) else False
  | _ => False
noncomputable def awR : Ct := (64, ctF (psF Tryz.prog 64) gRq) :: (61, g61) :: awT
def awLT : Nat → Lp := fun f =>
  bif inB f [56, 120] then [(0, .u 0)] else  bif Nat.beq f 12 then [(6, .u 40)] else bif Nat.beq f 40 then [(5, .u 40)] else bif Nat.beq f 41 then [(5, .u 40)] else bif Nat.beq f 42 then [(5, .u 40), (11, .u 40)] else bif Nat.beq f 43 then [(5, .u 40)] else bif Nat.beq f 51 then [(3, .u 40)] else bif Nat.beq f 65 then [(6, .u 40), (13, .u 40)] else bif Nat.beq f 107 then [(3, .u 40)] else bif Nat.beq f 108 then [(3, .u 40)] else bif Nat.beq f 109 then [(3, .u 40)] else bif Nat.beq f 116 then [(3, .u 40)] else bif Nat.beq f 121 then [(5, .u 40)] else bif Nat.beq f 122 then [(3, .u 40), (6, .u 40)] else bif Nat.beq f 123 then [(7, .u 40), (10, .u 40)] else bif Nat.beq f 129 then [(3, .u 40), (10, .u 40)] else bif Nat.beq f 136 then [(9, .u 40)] else bif Nat.beq f 147 then [(3, .u 40)] else bif Nat.beq f 154 then [(3, .u 40)] else bif Nat.beq f 156 then [(4, .u 40)] else bif Nat.beq f 159 then [(3, .u 40)] else bif Nat.beq f 160 then [(3, .u 40)] else bif Nat.beq f 173 then [(5, .u 40), (10, .u 40)] else bif Nat.beq f 174 then [(3, .u 40)] else bif Nat.beq f 182 then [(4, .u 40)] else bif Nat.beq f 189 then [(7, .u 40)] else bif Nat.beq f 191 then [(39, .u 40)] else bif Nat.beq f 192 then [(5, .u 40)] else bif Nat.beq f 203 then [(4, .u 40)] else bif Nat.beq f 204 then [(2, .u 40)] else bif Nat.beq f 207 then [(3, .u 40)] else bif Nat.beq f 209 then [(6, .u 40)] else bif Nat.beq f 210 then [(6, .u 40)] else bif Nat.beq f 224 then [(4, .u 40), (8, .u 40)] else bif Nat.beq f 226 then [(2, .u 40)] else bif Nat.beq f 227 then [(2, .u 40), (5, .u 40)] else bif Nat.beq f 228 then [(5, .u 40), (9, .u 40)] else bif Nat.beq f 229 then [(6, .u 40)] else bif Nat.beq f 231 then [(3, .u 40)] else bif Nat.beq f 232 then [(4, .u 40), (6, .u 40), (15, .u 40), (21, .u 40)] else bif Nat.beq f 233 then [(4, .u 40), (4, .u 40), (6, .u 40)] else bif Nat.beq f 234 then [(4, .u 40), (6, .u 40), (14, .u 40), (14, .u 40), (16, .u 40)] else bif Nat.beq f 242 then [(2, .u 40)] else []
def awK1 : Row := [.i 2, .i 2, .i 1, .sl [], .i 0, .i 1, .sl [], .i 0, .sl [], .sl [], .sl [[.i 1, .i 1, .i 0, .i 0, .sl [], .sl []]], .sl [rwR 0, rwR 0], .sl []]
def awK2 : Row := [.i 2, .i 2, .i 1, .sl [], .i 0, .i 1, .sl [], .i 0, .sl [[.i 1, .i 1, .i 0, .i 1]], .sl [], .sl [[.i 1, .i 1, .i 0, .i 0, .sl [], .sl []]], .sl [rwR 0, rwR 0], .sl []]
def awD : Row := [.i 2, .i 2, .i 1, .sl [], .i 0, .i 1, .sl [], .i 0, .sl [], .sl [], .sl [[.i 1, .i 1, .i 0, .i 0, .sl [], .sl []]], .sl [rwR 0, rwR 0], .sl [], .i 1, .i 1, .i 1, .i 0, .s ⟨#[]⟩, .i 1, .b true, .b false, .b false, .i 0, .i 0, .i 0, .b false, .s ⟨#[]⟩, .i 0]
theorem do_run (k : KVk) : dbody Tryz.prog (dcall Tryz.prog awR awLT 14) (awLT 12) true 12 (argVs (psF Tryz.prog 12) [awK1, [.i 1], [.i 1, .i 1, .i 0, .s ⟨#[]⟩]]) [] 0 k = (bSame (.R shDo awD) (.R shDo awD) ∧ k (.t [.r shK awK2, .r shRs [.i 3, .i 0, .i 1, .b false, .s ⟨#[]⟩, .i 0]]) [] 0) := by kernel_rfl
noncomputable def gDo1 (rs : List Row) (k : V → Prop) : Prop := match rs with
  | [a, b, c] => bif rowB a awK1 && (rowB b [.i 1] && rowB c [.i 1, .i 1, .i 0, .s ⟨#[]⟩]) then k (.t [.r shK awK2, .r shRs [.i 3, .i 0, .i 1, .b false, .s ⟨#[]⟩, .i 0]]) else False
  | _ => False
noncomputable def awS : Ct := (12, ctF (psF Tryz.prog 12) gDo1) :: awR
theorem awake_run (k : KVk) : dbody Tryz.prog (dcall Tryz.prog awS awLT 14) [] true 4 [] [] 0 k = k (.c (.b true)) [] 0 := by kernel_rfl
theorem awT_ok : CtOk Tryz.prog awT := sub_ok ok18 fun f g e => by
  unfold awT at e
  by_cases h1 : 56 = f
  · subst h1
    rw [look_same] at e
    cases e
    rfl
  rw [look_ne h1] at e
  by_cases h2 : 57 = f
  · subst h2
    rw [look_same] at e
    cases e
    rfl
  rw [look_ne h2] at e
  by_cases h3 : 120 = f
  · subst h3
    rw [look_same] at e
    cases e
    rfl
  rw [look_ne h3] at e
  by_cases h4 : 165 = f
  · subst h4
    rw [look_same] at e
    cases e
    rfl
  rw [look_ne h4] at e
  cases e
theorem gRq_of {rs : List Row} {k : V → Prop} (h : gRq rs k) : g64 rs k := by
  unfold gRq at h
  split at h
  · rename_i a b
    cases h1 : rowB a (lkR [] []) && rowB b (gR ⟨1, 1, 0, 1⟩) with
    | false => rw [h1] at h; exact h.elim
    | true =>
      rw [h1] at h
      obtain ⟨h2, h3⟩ := and2 h1
      have := (rowB_iff _ _).1 h2
      subst this
      have := (rowB_iff _ _).1 h3
      subst this
      exact ⟨[], [], ⟨1, 1, 0, 1⟩, ⟨⟨rfl⟩, rfl, by decide⟩, rfl, fk_t rfl h⟩
  · exact h.elim
theorem ctF_mono {P : Program} {f : Nat} {g g' : List Row → (V → Prop) → Prop} (h : ∀ rs k, g rs k → g' rs k) {vs : List V} {E : Mem} {nx : Nat} {k : KVk} (hk : ctF (psF P f) g vs E nx k) : ctF (psF P f) g' vs E nx k := by
  unfold ctF at hk ⊢
  split at hk
  · split at hk
    · exact h _ _ hk
    · exact hk.elim
  · exact hk.elim
theorem awR_ok : CtOk Tryz.prog awR := (awT_ok.cons (ok18 61 _ rfl)).cons fun vs E nx k h => ok18 64 _ rfl vs E nx k (ctF_mono (g := gRq) (k := k) (fun _ _ => gRq_of) h)
theorem ct_consX {P : Program} {T T' : Ct} (hT : CtOk P T) (hT' : CtOk P T') {fz : Bool} {f : Nat} {g : List Row → (V → Prop) → Prop} (h : ∀ rs k, g rs (fun v => k v [] 0) → ∃ lp LT n, dbody P (dcall P T' LT n) lp fz f (argVs (psF P f) rs) [] 0 k) : CtOk P ((f, ctF (psF P f) g) :: T) := by
  refine hT.cons fun vs E nx k hk => ?_
  unfold ctF at hk
  split at hk
  · split at hk
    · rename_i rs hrs
      intro G φ z w us hm hlt hus
      obtain ⟨lp, LT, n, h⟩ := h rs k hk
      exact dbody_ok (dcall_ok hT' n) h G φ z w us hm hlt (argRows_ok hrs hus)
    · exact hk.elim
  · exact hk.elim
theorem awS_ok : CtOk Tryz.prog awS := by
  refine ct_cons awR_ok (fz := true) fun rs k h => ?_
  unfold gDo1 at h
  split at h
  · rename_i a b c
    cases h1 : rowB a awK1 && (rowB b [.i 1] && rowB c [.i 1, .i 1, .i 0, .s ⟨#[]⟩]) with
    | false => rw [h1] at h; exact h.elim
    | true =>
      rw [h1] at h
      obtain ⟨h2, h3⟩ := and2 h1
      obtain ⟨h4, h5⟩ := and2 h3
      have := (rowB_iff _ _).1 h2
      subst this
      have := (rowB_iff _ _).1 h4
      subst this
      have := (rowB_iff _ _).1 h5
      subst this
      exact ⟨_, _, _, (do_run k).mpr ⟨rfl, h⟩⟩
  · exact h.elim
end Go.Proofs.YtgjindhjgmplgaaGreat
