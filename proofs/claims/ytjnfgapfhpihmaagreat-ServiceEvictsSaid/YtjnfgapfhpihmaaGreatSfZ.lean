/-
  ServiceEvicts: the call, whatever the slice of bytes holds and the number is.
-/
import Derived.Test.YtjnfgapfhpihmaaGreatRr0
import Derived.Test.YtjnfgapfhpihmaaGreatRr1
import Derived.Test.YtjnfgapfhpihmaaGreatRr2
import Derived.Test.YtjnfgapfhpihmaaGreatRr3
import Derived.Test.YtjnfgapfhpihmaaGreatRr4
import Derived.Test.YtjnfgapfhpihmaaGreatRr5
import Derived.Test.YtjnfgapfhpihmaaGreatRr6
import Derived.Test.YtjnfgapfhpihmaaGreatRr7
import Derived.Test.YtjnfgapfhpihmaaGreatRr8
import Derived.Test.YtjnfgapfhpihmaaGreatRr9
import Derived.Test.YtjnfgapfhpihmaaGreatRr10
import Derived.Test.YtjnfgapfhpihmaaGreatRr11
import Derived.Test.YtjnfgapfhpihmaaGreatRzA
import Derived.Test.YtjnfgapfhpihmaaGreatSfW
import Derived.ProofKit
import Derived.OpenShut
set_option linter.unusedVariables false
set_option linter.unusedSimpArgs false
section
set_option maxRecDepth 100000
namespace Go.Proofs.YtjnfgapfhpihmaaGreat
theorem lt2 {P : Nat → Prop} (a0 : P 0) (a1 : P 1) : ∀ i, i < 2 → P i
  | 0, _ => a0
  | 1, _ => a1
  | i + 2, h => absurd h (by omega)
theorem lt3 {P : Nat → Prop} (a0 : P 0) (a1 : P 1) (a2 : P 2) : ∀ i, i < 3 → P i
  | 0, _ => a0
  | 1, _ => a1
  | 2, _ => a2
  | i + 3, h => absurd h (by omega)
theorem lt4 {P : Nat → Prop} (a0 : P 0) (a1 : P 1) (a2 : P 2) (a3 : P 3) : ∀ i, i < 4 → P i
  | 0, _ => a0
  | 1, _ => a1
  | 2, _ => a2
  | 3, _ => a3
  | i + 4, h => absurd h (by omega)
theorem lt5 {P : Nat → Prop} (a0 : P 0) (a1 : P 1) (a2 : P 2) (a3 : P 3) (a4 : P 4) : ∀ i, i < 5 → P i
  | 0, _ => a0
  | 1, _ => a1
  | 2, _ => a2
  | 3, _ => a3
  | 4, _ => a4
  | i + 5, h => absurd h (by omega)
theorem lt6 {P : Nat → Prop} (a0 : P 0) (a1 : P 1) (a2 : P 2) (a3 : P 3) (a4 : P 4) (a5 : P 5) : ∀ i, i < 6 → P i
  | 0, _ => a0
  | 1, _ => a1
  | 2, _ => a2
  | 3, _ => a3
  | 4, _ => a4
  | 5, _ => a5
  | i + 6, h => absurd h (by omega)
theorem lt7 {P : Nat → Prop} (a0 : P 0) (a1 : P 1) (a2 : P 2) (a3 : P 3) (a4 : P 4) (a5 : P 5) (a6 : P 6) : ∀ i, i < 7 → P i
  | 0, _ => a0
  | 1, _ => a1
  | 2, _ => a2
  | 3, _ => a3
  | 4, _ => a4
  | 5, _ => a5
  | 6, _ => a6
  | i + 7, h => absurd h (by omega)
theorem rounds2 : Rounds 2 := by
  intro k q p hk hq h0 hp
  have hc : k = 0 ∨ k = 1 ∨ k = 2 := by omega
  rcases hc with rfl | rfl | rfl
  · cases h0 rfl
    exact lt2 (P := fun p => runP 2 0 0 p = true) r2000 r2001 p hp
  · exact lt2 (P := fun q => ∀ p, p < 2 → runP 2 1 q p = true) (lt2 r2100 r2101) (lt2 r2110 r2111) q (hq (by decide)) p hp
  · exact lt2 (P := fun q => ∀ p, p < 2 → runP 2 2 q p = true) (lt2 r2200 r2201) (lt2 r2210 r2211) q (hq (by decide)) p hp
theorem ends2 : Ends 2 := by
  intro k q hk hq h0
  have hc : k = 0 ∨ k = 1 ∨ k = 2 := by omega
  rcases hc with rfl | rfl | rfl
  · cases h0 rfl
    exact z2000
  · exact lt2 (P := fun q => runZ 2 1 q = true) z2100 z2110 q (hq (by decide))
  · exact lt2 (P := fun q => runZ 2 2 q = true) z2200 z2210 q (hq (by decide))
theorem rounds3 : Rounds 3 := by
  intro k q p hk hq h0 hp
  have hc : k = 0 ∨ k = 1 ∨ k = 2 := by omega
  rcases hc with rfl | rfl | rfl
  · cases h0 rfl
    exact lt3 (P := fun p => runP 3 0 0 p = true) r3000 r3001 r3002 p hp
  · exact lt3 (P := fun q => ∀ p, p < 3 → runP 3 1 q p = true) (lt3 r3100 r3101 r3102) (lt3 r3110 r3111 r3112) (lt3 r3120 r3121 r3122) q (hq (by decide)) p hp
  · exact lt3 (P := fun q => ∀ p, p < 3 → runP 3 2 q p = true) (lt3 r3200 r3201 r3202) (lt3 r3210 r3211 r3212) (lt3 r3220 r3221 r3222) q (hq (by decide)) p hp
theorem ends3 : Ends 3 := by
  intro k q hk hq h0
  have hc : k = 0 ∨ k = 1 ∨ k = 2 := by omega
  rcases hc with rfl | rfl | rfl
  · cases h0 rfl
    exact z3000
  · exact lt3 (P := fun q => runZ 3 1 q = true) z3100 z3110 z3120 q (hq (by decide))
  · exact lt3 (P := fun q => runZ 3 2 q = true) z3200 z3210 z3220 q (hq (by decide))
theorem rounds4 : Rounds 4 := by
  intro k q p hk hq h0 hp
  have hc : k = 0 ∨ k = 1 ∨ k = 2 := by omega
  rcases hc with rfl | rfl | rfl
  · cases h0 rfl
    exact lt4 (P := fun p => runP 4 0 0 p = true) r4000 r4001 r4002 r4003 p hp
  · exact lt4 (P := fun q => ∀ p, p < 4 → runP 4 1 q p = true) (lt4 r4100 r4101 r4102 r4103) (lt4 r4110 r4111 r4112 r4113) (lt4 r4120 r4121 r4122 r4123) (lt4 r4130 r4131 r4132 r4133) q (hq (by decide)) p hp
  · exact lt4 (P := fun q => ∀ p, p < 4 → runP 4 2 q p = true) (lt4 r4200 r4201 r4202 r4203) (lt4 r4210 r4211 r4212 r4213) (lt4 r4220 r4221 r4222 r4223) (lt4 r4230 r4231 r4232 r4233) q (hq (by decide)) p hp
theorem ends4 : Ends 4 := by
  intro k q hk hq h0
  have hc : k = 0 ∨ k = 1 ∨ k = 2 := by omega
  rcases hc with rfl | rfl | rfl
  · cases h0 rfl
    exact z4000
  · exact lt4 (P := fun q => runZ 4 1 q = true) z4100 z4110 z4120 z4130 q (hq (by decide))
  · exact lt4 (P := fun q => runZ 4 2 q = true) z4200 z4210 z4220 z4230 q (hq (by decide))
theorem rounds5 : Rounds 5 := by
  intro k q p hk hq h0 hp
  have hc : k = 0 ∨ k = 1 ∨ k = 2 := by omega
  rcases hc with rfl | rfl | rfl
  · cases h0 rfl
    exact lt5 (P := fun p => runP 5 0 0 p = true) r5000 r5001 r5002 r5003 r5004 p hp
  · exact lt5 (P := fun q => ∀ p, p < 5 → runP 5 1 q p = true) (lt5 r5100 r5101 r5102 r5103 r5104) (lt5 r5110 r5111 r5112 r5113 r5114) (lt5 r5120 r5121 r5122 r5123 r5124) (lt5 r5130 r5131 r5132 r5133 r5134) (lt5 r5140 r5141 r5142 r5143 r5144) q (hq (by decide)) p hp
  · exact lt5 (P := fun q => ∀ p, p < 5 → runP 5 2 q p = true) (lt5 r5200 r5201 r5202 r5203 r5204) (lt5 r5210 r5211 r5212 r5213 r5214) (lt5 r5220 r5221 r5222 r5223 r5224) (lt5 r5230 r5231 r5232 r5233 r5234) (lt5 r5240 r5241 r5242 r5243 r5244) q (hq (by decide)) p hp
theorem ends5 : Ends 5 := by
  intro k q hk hq h0
  have hc : k = 0 ∨ k = 1 ∨ k = 2 := by omega
  rcases hc with rfl | rfl | rfl
  · cases h0 rfl
    exact z5000
  · exact lt5 (P := fun q => runZ 5 1 q = true) z5100 z5110 z5120 z5130 z5140 q (hq (by decide))
  · exact lt5 (P := fun q => runZ 5 2 q = true) z5200 z5210 z5220 z5230 z5240 q (hq (by decide))
theorem rounds6 : Rounds 6 := by
  intro k q p hk hq h0 hp
  have hc : k = 0 ∨ k = 1 ∨ k = 2 := by omega
  rcases hc with rfl | rfl | rfl
  · cases h0 rfl
    exact lt6 (P := fun p => runP 6 0 0 p = true) r6000 r6001 r6002 r6003 r6004 r6005 p hp
  · exact lt6 (P := fun q => ∀ p, p < 6 → runP 6 1 q p = true) (lt6 r6100 r6101 r6102 r6103 r6104 r6105) (lt6 r6110 r6111 r6112 r6113 r6114 r6115) (lt6 r6120 r6121 r6122 r6123 r6124 r6125) (lt6 r6130 r6131 r6132 r6133 r6134 r6135) (lt6 r6140 r6141 r6142 r6143 r6144 r6145) (lt6 r6150 r6151 r6152 r6153 r6154 r6155) q (hq (by decide)) p hp
  · exact lt6 (P := fun q => ∀ p, p < 6 → runP 6 2 q p = true) (lt6 r6200 r6201 r6202 r6203 r6204 r6205) (lt6 r6210 r6211 r6212 r6213 r6214 r6215) (lt6 r6220 r6221 r6222 r6223 r6224 r6225) (lt6 r6230 r6231 r6232 r6233 r6234 r6235) (lt6 r6240 r6241 r6242 r6243 r6244 r6245) (lt6 r6250 r6251 r6252 r6253 r6254 r6255) q (hq (by decide)) p hp
theorem ends6 : Ends 6 := by
  intro k q hk hq h0
  have hc : k = 0 ∨ k = 1 ∨ k = 2 := by omega
  rcases hc with rfl | rfl | rfl
  · cases h0 rfl
    exact z6000
  · exact lt6 (P := fun q => runZ 6 1 q = true) z6100 z6110 z6120 z6130 z6140 z6150 q (hq (by decide))
  · exact lt6 (P := fun q => runZ 6 2 q = true) z6200 z6210 z6220 z6230 z6240 z6250 q (hq (by decide))
theorem rounds7 : Rounds 7 := by
  intro k q p hk hq h0 hp
  have hc : k = 0 ∨ k = 1 ∨ k = 2 := by omega
  rcases hc with rfl | rfl | rfl
  · cases h0 rfl
    exact lt7 (P := fun p => runP 7 0 0 p = true) r7000 r7001 r7002 r7003 r7004 r7005 r7006 p hp
  · exact lt7 (P := fun q => ∀ p, p < 7 → runP 7 1 q p = true) (lt7 r7100 r7101 r7102 r7103 r7104 r7105 r7106) (lt7 r7110 r7111 r7112 r7113 r7114 r7115 r7116) (lt7 r7120 r7121 r7122 r7123 r7124 r7125 r7126) (lt7 r7130 r7131 r7132 r7133 r7134 r7135 r7136) (lt7 r7140 r7141 r7142 r7143 r7144 r7145 r7146) (lt7 r7150 r7151 r7152 r7153 r7154 r7155 r7156) (lt7 r7160 r7161 r7162 r7163 r7164 r7165 r7166) q (hq (by decide)) p hp
  · exact lt7 (P := fun q => ∀ p, p < 7 → runP 7 2 q p = true) (lt7 r7200 r7201 r7202 r7203 r7204 r7205 r7206) (lt7 r7210 r7211 r7212 r7213 r7214 r7215 r7216) (lt7 r7220 r7221 r7222 r7223 r7224 r7225 r7226) (lt7 r7230 r7231 r7232 r7233 r7234 r7235 r7236) (lt7 r7240 r7241 r7242 r7243 r7244 r7245 r7246) (lt7 r7250 r7251 r7252 r7253 r7254 r7255 r7256) (lt7 r7260 r7261 r7262 r7263 r7264 r7265 r7266) q (hq (by decide)) p hp
theorem ends7 : Ends 7 := by
  intro k q hk hq h0
  have hc : k = 0 ∨ k = 1 ∨ k = 2 := by omega
  rcases hc with rfl | rfl | rfl
  · cases h0 rfl
    exact z7000
  · exact lt7 (P := fun q => runZ 7 1 q = true) z7100 z7110 z7120 z7130 z7140 z7150 z7160 q (hq (by decide))
  · exact lt7 (P := fun q => runZ 7 2 q = true) z7200 z7210 z7220 z7230 z7240 z7250 z7260 q (hq (by decide))
theorem all_rounds (n : Nat) (h2 : 2 ≤ n) (h7 : n ≤ 7) : Rounds n ∧ Ends n := by
  have hn : n = 2 ∨ n = 3 ∨ n = 4 ∨ n = 5 ∨ n = 6 ∨ n = 7 := by omega
  rcases hn with rfl | rfl | rfl | rfl | rfl | rfl
  · exact ⟨rounds2, ends2⟩
  · exact ⟨rounds3, ends3⟩
  · exact ⟨rounds4, ends4⟩
  · exact ⟨rounds5, ends5⟩
  · exact ⟨rounds6, ends6⟩
  · exact ⟨rounds7, ends7⟩
end Go.Proofs.YtjnfgapfhpihmaaGreat
end
section
set_option maxRecDepth 100000
namespace Go.Proofs.YtjnfgapfhpihmaaGreat
open Go.RowKit Go.ChangeShapes Go.WideShapes Go.ChangeAt
def IsRow (k : IntKind) (w : World) (a : Option Addr) (len cap : Nat) (zs : List Int) : Prop :=
  (a = none ∧ len = 0 ∧ cap = 0 ∧ zs = []) ∨
  ∃ x, a = some x ∧ len ≤ cap ∧ cap ≤ maxLen ∧ zs.length = cap ∧ (∀ i, i < zs.length → w.cell? (x.add i) = some (.int k (zs.getD i 0))) ∧ ∀ n ∈ zs, (Lit.int k n).wf = true
def rowsOf (len : Nat) (zs : List Int) : List (List DV) := (zs.take len).map fun n => [DV.i n]
theorem frozen_all {w : World} {x : Option Addr} {len cap : Nat} {zs : List Int} (hz : IsRow .u8 w x len cap zs) : SlD (fun b => w.heap[b]?) shB (rowsOf len zs) (.slice x len cap) := by
  unfold rowsOf
  rcases hz with ⟨rfl, rfl, rfl, rfl⟩ | ⟨a, rfl, hl, hm, hlen, hc, hw⟩
  · exact ⟨none, 0, rfl, by simp, .inl rfl⟩
  · by_cases h0 : len = 0
    · subst h0
      exact ⟨_, _, rfl, by simp, .inl rfl⟩
    · obtain ⟨b, off, rfl, hi⟩ := ints_at hc (by omega)
      have h1 := hi 0 (by omega)
      have hb : ∃ arr T fz, w.heap[b]? = some (.cells arr T fz) := by
        unfold World.cell? at h1
        split at h1
        · rename_i arr T fz hb; exact ⟨_, _, _, hb⟩
        · cases h1
      obtain ⟨arr, T, fz, hb⟩ := hb
      refine ⟨some ⟨b, off, none⟩, cap, by simp; omega, by simp; omega, .inr ⟨b, off, arr, T, fz, rfl, hb, fun i row hr => ?_⟩⟩
      have hil : i < zs.length ∧ i < len := by
        have := (List.getElem?_eq_some_iff.1 hr).1
        simp at this; omega
      have hrow : row = [DV.i (zs.getD i 0)] := by
        simp [hil.1, hil.2] at hr
        rw [← hr]; simp [hil.1]
      have hcell := hi i hil.1
      rw [cell_of_row w b _ arr T fz hb] at hcell
      have hlt := (Array.getElem?_eq_some_iff.1 hcell).1
      have hvs : (arr.toList.drop (off + i * shB.len)).take shB.len = [Value.int .u8 (zs.getD i 0)] := by
        show (arr.toList.drop (off + i * 1)).take 1 = _
        rw [Nat.mul_one, List.drop_eq_getElem_cons (by simpa using hlt), List.take_succ_cons, List.take_zero]
        congr 1
        have := (Array.getElem?_eq_some_iff.1 hcell).2
        simpa using this
      rw [hrow, hvs]
      exact ⟨_, _, _, rfl, rfl, rfl, rfl⟩
theorem byt_of {w : World} {x : Option Addr} {len cap : Nat} {zs : List Int} (hz : IsRow .u8 w x len cap zs) : ∀ row ∈ rowsOf len zs, ∃ n, row = [DV.i n] ∧ 0 ≤ n ∧ n ≤ 255 := by
  intro row hr
  obtain ⟨n, hn, rfl⟩ := List.mem_map.1 hr
  have hmem : n ∈ zs := List.mem_of_mem_take hn
  rcases hz with ⟨_, _, _, rfl⟩ | ⟨_, _, _, _, _, _, hw⟩
  · cases hmem
  · exact ⟨n, rfl, (bounds_u8 (hw _ hmem)).1, (bounds_u8 (hw _ hmem)).2⟩
theorem len_of {w : World} {x : Option Addr} {len cap : Nat} {zs : List Int} (hz : IsRow .u8 w x len cap zs) : (rowsOf len zs).length ≤ 9223372036854775807 := by
  unfold rowsOf
  rcases hz with ⟨_, rfl, _, _⟩ | ⟨_, _, h1, h2, h3, _⟩
  · simp
  · have : maxLen ≤ 9223372036854775807 := by unfold maxLen; omega
    simp; omega
def bS (d : List (List DV)) (x : Int) : Nat → MV := fun n => if n = 50 then { d := d } else if n = 49 then { i := x } else {}
theorem runB3 : runB 3 false = true := by kernel_rfl
theorem runB4 : runB 4 false = true := by kernel_rfl
theorem runB5 : runB 5 false = true := by kernel_rfl
theorem runB6 : runB 6 false = true := by kernel_rfl
theorem runB7 : runB 7 false = true := by kernel_rfl
theorem runC2 : runB 2 true = true := by kernel_rfl
theorem runC3 : runB 3 true = true := by kernel_rfl
theorem runC4 : runB 4 true = true := by kernel_rfl
theorem runC5 : runB 5 true = true := by kernel_rfl
theorem runC6 : runB 6 true = true := by kernel_rfl
theorem runC7 : runB 7 true = true := by kernel_rfl
theorem runB_at (n : Nat) (h2 : 2 ≤ n) (h7 : n ≤ 7) (l : Bool) : runB n l = true := by
  have hn : n = 2 ∨ n = 3 ∨ n = 4 ∨ n = 5 ∨ n = 6 ∨ n = 7 := by omega
  cases l with
  | false =>
    rcases hn with rfl | rfl | rfl | rfl | rfl | rfl
    · exact runB2
    · exact runB3
    · exact runB4
    · exact runB5
    · exact runB6
    · exact runB7
  | true =>
    rcases hn with rfl | rfl | rfl | rfl | rfl | rfl
    · exact runC2
    · exact runC3
    · exact runC4
    · exact runC5
    · exact runC6
    · exact runC7
section
variable {b : Nat → MV} {g : Nm → Value} {z : Nat → Option Obj}
theorem inv_ini (g : Nm → Value) (z : Nat → Option Obj) {n : Nat} {co : Nm} (h2 : 2 ≤ n) (h7 : n ≤ 7) (hco : BytesD ((vb b g z).d co)) : Inv n 0 0 (nb b (rnB n co)) := by
  have hs := vb_std b g z
  have e2 : (nb b (rnB n co) 2).i = 0 := (nb_i (g := g) (z := z) rfl).trans (num_i hs 0)
  have e4 : (nb b (rnB n co) 4).i = 0 := (nb_i (g := g) (z := z) rfl).trans (num_i hs 0)
  have e6 : (nb b (rnB n co) 6).i = 0 := (nb_i (g := g) (z := z) rfl).trans (num_i hs 0)
  have e8 : (nb b (rnB n co) 8).i = 0 := (nb_i (g := g) (z := z) rfl).trans (num_i hs 0)
  have d0 : (nb b (rnB n co) 0).d = [] := (nb_d (g := g) (z := z) rfl).trans hs.nil
  have d1 : (nb b (rnB n co) 1).d = [] := (nb_d (g := g) (z := z) rfl).trans hs.nil
  have d7 : (nb b (rnB n co) 7).d = [] := (nb_d (g := g) (z := z) rfl).trans hs.nil
  have d11 : (nb b (rnB n co) 11).d = [] := (nb_d (g := g) (z := z) rfl).trans hs.nil
  have d50 : (nb b (rnB n co) 50).d = (vb b g z).d co := nb_d rfl
  have hl := hco.1
  refine ⟨h2, h7, fun h => absurd rfl h, by decide, by rw [d50]; exact hco, by rw [e8]; decide, by rw [e8]; exact Int.natCast_nonneg _, ?_, by rw [d0, d50, e8]; simp; omega, by rw [e2]; decide, by rw [e2, d0]; decide, ?_, by rw [e4]; decide, by rw [e4, d0]; decide, by rw [e6]; decide, by rw [e6, d50, e8]; omega, ?_, d11, ?_, fun h => (nomatch h)⟩
  · rw [d0]
    exact ⟨by decide, fun i row h => by simp at h⟩
  · rw [d1, e2]
    exact ⟨by decide, by decide, [], rfl, .nil, fun n h => (nomatch h)⟩
  · rw [d7]
    exact ⟨by omega, [], rfl, .nil, fun x h => (nomatch h)⟩
  · intro i hi
    have hx : (nb b (rnB n co) (100 + i)).i = 0 := by
      refine (nb_i (g := g) (z := z) ?_).trans (num_i hs 0)
      show lk ([(2, num 0), (4, num 0), (6, num 0), (8, num 0)] ++ upN (fun i => (Nat.add 100 i, num 0)) n) (100 + i) = some (num 0)
      rw [lk_app]
      have e : lk [(2, num 0), (4, num 0), (6, num 0), (8, num 0)] (100 + i) = none := by
        simp only [lk, cond_false, beq_no (show (2 : Nat) ≠ 100 + i by omega), beq_no (show (4 : Nat) ≠ 100 + i by omega), beq_no (show (6 : Nat) ≠ 100 + i by omega), beq_no (show (8 : Nat) ≠ 100 + i by omega)]
      rw [e]
      exact lk_up (f := fun _ => num 0) n hi
    have hv : (nb b (rnB n co) (110 + i)).s = blankB := by
      refine (nb_s (g := g) (z := z) ?_).trans (zI_ok hs (vb_pp b g z))
      show lk (upN (fun i => (Nat.add 110 i, zT)) n ++ upN (fun i => (Nat.add 130 i, tNo)) n) (110 + i) = some zT
      rw [lk_app, lk_up (f := fun _ => zT) n hi]
    have hd : (nb b (rnB n co) (130 + i)).s = ⟨#[]⟩ := by
      refine (nb_s (g := g) (z := z) ?_).trans (tNo_s hs)
      show lk (upN (fun i => (Nat.add 110 i, zT)) n ++ upN (fun i => (Nat.add 130 i, tNo)) n) (130 + i) = some tNo
      rw [lk_app, lk_up_none (f := fun _ => zT) n fun j hj => by omega]
      exact lk_up (f := fun _ => tNo) n hi
    have hc : (nb b (rnB n co) (120 + i)).b = false := (nb_b (g := g) (z := z) (lk_up (f := fun _ => tT 0) n hi)).trans (tT_b hs 0)
    rw [hx, hv, hd, hc, d0]
    exact ⟨⟨by omega, by omega, .inl ⟨rfl, rfl, rfl, rfl⟩⟩, by decide⟩
end
theorem law_all {w0 : World} {N : Nat} {g : Nm → Value} {z : Nat → Option Obj} {d : List (List DV)} {x : Int} (hd : ∀ row ∈ d, ∃ n, row = [DV.i n] ∧ 0 ≤ n ∧ n ≤ 255) (hl : d.length ≤ 9223372036854775807) (x0 : 0 ≤ x) (x1 : x ≤ 255) : Tri Tryz.prog N mBody (At w0 N (vb (bS d x) g z) sBeg) fun e a w => e = .ret ∧ ∃ ρ' s', saysTrue mRes s' = true ∧ At w0 N ρ' s' a w := by
  have hs := vb_std (bS d x) g z
  obtain ⟨n, hn⟩ : ∃ n : Nat, (n : Int) = 2 + x % 6 := ⟨(2 + x % 6).toNat, by omega⟩
  have h2 : 2 ≤ n := by omega
  have h7 : n ≤ 7 := by omega
  obtain ⟨l, hll⟩ : ∃ l, l = Nat.blt 200 d.length := ⟨_, rfl⟩
  have hrun := runB_at n h2 h7 l
  unfold runB at hrun
  rw [Bool.and_eq_true] at hrun
  have e50 : (vb (bS d x) g z).d (.v 50) = d := rfl
  have hF : ∀ f ∈ fBeg n l, f.holds QR (vb (bS d x) g z) := by
    unfold fBeg
    refine facts_cons ?_ (facts_cons (f := .rng (.f2 3 (.v 49) (num 6)) (.ofNat (Nat.sub n 2)) (.ofNat (Nat.sub n 2))) (show ((n - 2 : Nat) : Int) ≤ (vb (bS d x) g z).i (.f2 3 (.v 49) (num 6)) ∧ (vb (bS d x) g z).i (.f2 3 (.v 49) (num 6)) ≤ ((n - 2 : Nat) : Int) from ?_) (facts_cons (f := .rng (.v 49) 0 255) (show (0 : Int) ≤ x ∧ x ≤ 255 from ⟨x0, x1⟩) facts_nil))
    · cases hb : Nat.blt 200 d.length with
      | true =>
        rw [hll, hb]
        have := Nat.le_of_ble_eq_true hb
        exact (show (201 : Int) ≤ ((d.length : Nat) : Int) ∧ ((d.length : Nat) : Int) ≤ 9223372036854775807 from by omega)
      | false =>
        rw [hll, hb]
        have : ¬ 200 < d.length := fun h => by rw [show Nat.blt 200 d.length = true from Nat.ble_eq_true_of_le h] at hb; cases hb
        exact (show (0 : Int) ≤ ((d.length : Nat) : Int) ∧ ((d.length : Nat) : Int) ≤ 200 from by omega)
    · rw [hs.rem, num_i hs, show (vb (bS d x) g z).i (.v 49) = x from rfl, Int.tmod_eq_emod_of_nonneg x0]
      omega
  have hco : BytesD ((vb (bS d x) g z).d (coT l)) := by
    unfold coT
    cases hb : Nat.blt 200 d.length with
    | true =>
      rw [hll, hb]
      have e : (vb (bS d x) g z).d (.f2 1401 (.v 50) (num 200)) = d.take 200 := by rw [hs.take, num_i hs]; rfl
      show BytesD ((vb (bS d x) g z).d (.f2 1401 (.v 50) (num 200)))
      rw [e]
      exact ⟨by rw [List.length_take]; omega, fun row hr => hd row (List.mem_of_mem_take hr)⟩
    | false =>
      rw [hll, hb]
      have : ¬ 200 < d.length := fun h => by rw [show Nat.blt 200 d.length = true from Nat.ble_eq_true_of_le h] at hb; cases hb
      exact ⟨by show d.length ≤ 200; omega, hd⟩
  obtain ⟨hR, hE⟩ := all_rounds n h2 h7
  refine Tri.pre_runX (codeA (fBeg n l) _) (envR_ok hF) mCut hrun.2 (ren_nb hrun.1) ?_
  rw [mX_eq]
  refine Tri.seq (Mid := fun a w => ∃ y, Hd w0 N n g z y a w) ?_ ?_
  · refine (Tri.block (Post := fun e a w => e = .normal ∧ ∃ y, Hd w0 N n g z y a w) ?_).post fun e a w hq => .inl hq
    refine ((Tri.loop muS (Hd w0 N n g z) fun y => loop_round hR hE y).post fun e a w hq => .inl ⟨.inr hq.1, rfl, hq.2⟩).pre fun a w hA => ?_
    exact ⟨⟨0, 0, nb (bS d x) (rnB n (coT l))⟩, ⟨inv_ini g z h2 h7 hco, fun _ => rfl⟩, ini_at n h2 h7 hA⟩
  · exact Tri.ex fun y => end_tri hE y
theorem evicts_walk (a0 : Option Addr) (len0 cap0 : Nat) (x : Int) {z0 : List Int} {w : World} (h0 : IsRow .u8 w a0 len0 cap0 z0) (x0 : 0 ≤ x) (x1 : x ≤ 255) :
    Calls Tryz.prog 3 #[.slice a0 len0 cap0, .int .u8 x] w fun e w' => e = .returned (.bool true) ∧ Below w.heap.size w w' := by
  refine law_tri (us := [.slice a0 len0 cap0, .int .u8 x]) (args := [.c (.ds shB (.v 50)), .c (.si .u8 (.v 49))]) (s0 := sBeg) (ac := mBody) (res := mRes) (ρ := vb (bS (rowsOf len0 z0) x) gIf fun b => w.heap[b]?) Tryz.func3 (by kernel_rfl) ⟨_, rfl, rfl⟩ rfl (.cons (frozen_all h0) (.cons rfl .nil)) w (fun b x h => h) ?_
  exact law_all (byt_of h0) (len_of h0) x0 x1
end Go.Proofs.YtjnfgapfhpihmaaGreat
end
