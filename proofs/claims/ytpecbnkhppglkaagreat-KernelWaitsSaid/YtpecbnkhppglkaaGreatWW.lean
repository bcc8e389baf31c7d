/-
  KernelWaits answers true whatever the input.
-/
import Derived.Test.YtpecbnkhppglkaaGreatWR0
import Derived.Test.YtpecbnkhppglkaaGreatWR1
import Derived.Test.YtpecbnkhppglkaaGreatWR2
import Derived.Test.YtpecbnkhppglkaaGreatWR3
import Derived.Test.YtpecbnkhppglkaaGreatWR4
import Derived.Test.YtpecbnkhppglkaaGreatWR5
import Derived.Test.YtpecbnkhppglkaaGreatWR6
import Derived.Test.YtpecbnkhppglkaaGreatWR7
import Derived.Test.YtpecbnkhppglkaaGreatCdz
import Derived.KernelRfl
import Derived.WalkKit
namespace Go.Proofs.YtpecbnkhppglkaaGreat
open Go.RowKit
set_option maxRecDepth 100000
set_option linter.unusedVariables false
def rW (u v : Value) (z : Nat → Option Obj) (j p s : Int) (d : ByteArray) : Vn := vnA (fun n => match n with | 1 => { i := j } | 2 => { i := p } | 3 => { i := s } | 4 => { s := d } | _ => {}) (fun _ _ _ => {}) (fun t => match t with | .v 8 => v | _ => u) z
section
variable {u v : Value} {z : Nat → Option Obj} {j p s : Int} {d : ByteArray}
theorem std : StdA (rW u v z j p s d) := vnA_std _ _ _ _
theorem env0' : EnvOk (envA []) (rW u v z j p s d) := envA_ok std (List.forall_mem_nil _)
theorem renG : Ren (rW u v z j p s d) (rW u v z j p s d) nmG := ⟨fun _ => rfl, fun _ => rfl, fun _ h => (nomatch h), fun _ h => (nomatch h), fun _ h => (nomatch h), fun _ h => (nomatch h), fun x h => by simp only [nmG, List.mem_cons, List.not_mem_nil, or_false] at h; rcases h with rfl | rfl <;> rfl, rfl⟩
end
section
variable {u v : Value} {z : Nat → Option Obj} {j p s p' s' : Int} {d d' : ByteArray}
theorem renI : Ren (rW u v z j p s d) (rW u v z j p s d) nmId := ⟨fun _ => rfl, fun _ => rfl, fun x h => by simp only [nmId, List.mem_cons, List.not_mem_nil, or_false] at h; rcases h with rfl | rfl | rfl <;> rfl, fun x h => by simp only [nmId, List.mem_cons, List.not_mem_nil, or_false] at h; subst h; rfl, fun _ h => (nomatch h), fun _ h => (nomatch h), fun x h => by simp only [nmId, List.mem_cons, List.not_mem_nil, or_false] at h; subst h; rfl, rfl⟩
theorem renH : Ren (rW u v z j p s d) (rW u v z j p' s' d') nmH := ⟨fun _ => rfl, fun _ => rfl, fun x h => by simp only [nmH, List.mem_cons, List.not_mem_nil, or_false] at h; subst h; rfl, fun _ h => (nomatch h), fun _ h => (nomatch h), fun _ h => (nomatch h), fun x h => by simp only [nmH, List.mem_cons, List.not_mem_nil, or_false] at h; subst h; rfl, rfl⟩
theorem renS (h0 : 0 ≤ j) (h8 : j < 8) : Ren (rW u v z j p s d) (rW u v z (j + 1) p' s' d') nmSu := ⟨fun _ => rfl, fun _ => rfl, fun x h => by
  simp only [nmSu, List.mem_cons, List.not_mem_nil, or_false] at h
  subst h
  show j + 1 = IntKind.i64.wrap (j + 1)
  rw [IntWalk.i64_in _ (by omega)], fun _ h => (nomatch h), fun _ h => (nomatch h), fun _ h => (nomatch h), fun x h => by simp only [nmSu, List.mem_cons, List.not_mem_nil, or_false] at h; subst h; rfl, rfl⟩
theorem ren0 : Ren (rW u v z j p s d) (rW u v z 0 p' s' d') nm0 := ⟨fun _ => rfl, fun _ => rfl, fun x h => by simp only [nm0, List.mem_cons, List.not_mem_nil, or_false] at h; subst h; rfl, fun _ h => (nomatch h), fun _ h => (nomatch h), fun _ h => (nomatch h), fun x h => by simp only [nm0, List.mem_cons, List.not_mem_nil, or_false] at h; subst h; rfl, rfl⟩
end
def condC (i : Nat) (p s : Int) (d : ByteArray) : Prop := match i with
  | 0 => p ≤ (-1) ∧ d = ⟨#[]⟩
  | 1 => p = 0 ∧ s ≤ (-1) ∧ d = ⟨#[]⟩
  | 2 => p = 0 ∧ s = 0 ∧ d = ⟨#[]⟩
  | 3 => p = 0 ∧ s = 1 ∧ d = ⟨#[]⟩
  | 4 => p = 0 ∧ 2 ≤ s ∧ s ≤ 15 ∧ d = ⟨#[]⟩
  | 5 => p = 0 ∧ 16 ≤ s ∧ d = ⟨#[]⟩
  | 6 => 1 ≤ p ∧ d = ⟨#[]⟩
  | 7 => p ≤ (-1) ∧ d.size ≤ 12
  | 8 => p = 0 ∧ s ≤ (-1) ∧ d.size ≤ 12
  | 9 => p = 0 ∧ s = 0 ∧ d.size ≤ 12
  | 10 => p = 0 ∧ s = 1 ∧ d.size ≤ 12
  | 11 => p = 0 ∧ 2 ≤ s ∧ s ≤ 15 ∧ d.size ≤ 12
  | 12 => p = 0 ∧ 16 ≤ s ∧ d.size ≤ 12
  | 13 => 1 ≤ p ∧ d.size ≤ 12
  | 14 => p ≤ (-1) ∧ d = ⟨#[]⟩
  | 15 => p = 0 ∧ s ≤ (-1) ∧ d = ⟨#[]⟩
  | 16 => p = 0 ∧ s = 0 ∧ d = ⟨#[]⟩
  | 17 => p = 0 ∧ s = 1 ∧ d = ⟨#[]⟩
  | 18 => p = 0 ∧ 2 ≤ s ∧ s ≤ 15 ∧ d = ⟨#[]⟩
  | 19 => p = 0 ∧ 16 ≤ s ∧ d = ⟨#[]⟩
  | 20 => 1 ≤ p ∧ d = ⟨#[]⟩
  | 21 => p ≤ (-1) ∧ d = ⟨#[]⟩
  | 22 => p = 0 ∧ s ≤ (-1) ∧ d = ⟨#[]⟩
  | 23 => p = 0 ∧ s = 0 ∧ d = ⟨#[]⟩
  | 24 => p = 0 ∧ 1 ≤ s ∧ d = ⟨#[]⟩
  | 25 => 1 ≤ p ∧ d = ⟨#[]⟩
  | 26 => p ≤ (-1) ∧ s ≤ (-1) ∧ d = ⟨#[]⟩
  | 27 => p ≤ (-1) ∧ s = 0 ∧ d = ⟨#[]⟩
  | 28 => p ≤ (-1) ∧ 1 ≤ s ∧ d = ⟨#[]⟩
  | 29 => p = 0 ∧ s ≤ (-1) ∧ d = ⟨#[]⟩
  | 30 => p = 0 ∧ s = 0 ∧ d = ⟨#[]⟩
  | 31 => p = 0 ∧ 1 ≤ s ∧ d = ⟨#[]⟩
  | 32 => 1 ≤ p ∧ s ≤ (-1) ∧ d = ⟨#[]⟩
  | 33 => 1 ≤ p ∧ s = 0 ∧ d = ⟨#[]⟩
  | 34 => 1 ≤ p ∧ 1 ≤ s ∧ d = ⟨#[]⟩
  | 35 => p ≤ (-1) ∧ d = ⟨#[]⟩
  | 36 => p = 0 ∧ s ≤ (-1) ∧ d = ⟨#[]⟩
  | 37 => p = 0 ∧ s = 0 ∧ d = ⟨#[]⟩
  | 38 => p = 0 ∧ 1 ≤ s ∧ d = ⟨#[]⟩
  | 39 => 1 ≤ p ∧ d = ⟨#[]⟩
  | 40 => p ≤ (-1) ∧ d = ⟨#[]⟩
  | 41 => p = 0 ∧ s ≤ (-1) ∧ d = ⟨#[]⟩
  | 42 => p = 0 ∧ s = 0 ∧ d = ⟨#[]⟩
  | 43 => p = 0 ∧ s = 1 ∧ d = ⟨#[]⟩
  | 44 => p = 0 ∧ 2 ≤ s ∧ s ≤ 7 ∧ d = ⟨#[]⟩
  | 45 => p = 0 ∧ 8 ≤ s ∧ d = ⟨#[]⟩
  | 46 => 1 ≤ p ∧ d = ⟨#[]⟩
  | _ => False
def stC (i : Nat) : Lit := match i with
  | 0 => stC0
  | 1 => stC1
  | 2 => stC2
  | 3 => stC3
  | 4 => stC4
  | 5 => stC5
  | 6 => stC6
  | 7 => stC7
  | 8 => stC8
  | 9 => stC9
  | 10 => stC10
  | 11 => stC11
  | 12 => stC12
  | 13 => stC13
  | 14 => stC14
  | 15 => stC15
  | 16 => stC16
  | 17 => stC17
  | 18 => stC18
  | 19 => stC19
  | 20 => stC20
  | 21 => stC21
  | 22 => stC22
  | 23 => stC23
  | 24 => stC24
  | 25 => stC25
  | 26 => stC26
  | 27 => stC27
  | 28 => stC28
  | 29 => stC29
  | 30 => stC30
  | 31 => stC31
  | 32 => stC32
  | 33 => stC33
  | 34 => stC34
  | 35 => stC35
  | 36 => stC36
  | 37 => stC37
  | 38 => stC38
  | 39 => stC39
  | 40 => stC40
  | 41 => stC41
  | 42 => stC42
  | 43 => stC43
  | 44 => stC44
  | 45 => stC45
  | 46 => stC46
  | _ => SH
def vC (i : Nat) : AV := match i with
  | 0 => vC0
  | 1 => vC1
  | 2 => vC2
  | 3 => vC3
  | 4 => vC4
  | 5 => vC5
  | 6 => vC6
  | 7 => vC7
  | 8 => vC8
  | 9 => vC9
  | 10 => vC10
  | 11 => vC11
  | 12 => vC12
  | 13 => vC13
  | 14 => vC14
  | 15 => vC15
  | 16 => vC16
  | 17 => vC17
  | 18 => vC18
  | 19 => vC19
  | 20 => vC20
  | 21 => vC21
  | 22 => vC22
  | 23 => vC23
  | 24 => vC24
  | 25 => vC25
  | 26 => vC26
  | 27 => vC27
  | 28 => vC28
  | 29 => vC29
  | 30 => vC30
  | 31 => vC31
  | 32 => vC32
  | 33 => vC33
  | 34 => vC34
  | 35 => vC35
  | 36 => vC36
  | 37 => vC37
  | 38 => vC38
  | 39 => vC39
  | 40 => vC40
  | 41 => vC41
  | 42 => vC42
  | 43 => vC43
  | 44 => vC44
  | 45 => vC45
  | 46 => vC46
  | _ => .t []
theorem pick {k p s : Int} {d : ByteArray} (h1 : 1 ≤ k) (h7 : k ≤ 7) (hd : d.size ≤ 12) (hn : k ≠ 2 → d = ⟨#[]⟩) : ∃ i, i < 47 ∧ condC i p s d ∧ ∀ u v z j φ, VV (rW u v z j p s d) φ (vC i) (.agg #[.int .i64 k, .int .i64 p, .int .i64 s, .string d]) := by
  obtain rfl | rfl | rfl | rfl | rfl | rfl | rfl : k = 1 ∨ k = 2 ∨ k = 3 ∨ k = 4 ∨ k = 5 ∨ k = 6 ∨ k = 7 := by omega
  · obtain rfl := hn (by decide)
    obtain hp | rfl | hp : p ≤ -1 ∨ p = 0 ∨ 1 ≤ p := by omega
    · exact ⟨0, by decide, ⟨hp, rfl⟩, fun u v z j φ => ⟨[_, _, _, _], rfl, .cons rfl (.cons rfl (.cons rfl (.cons ⟨_, rfl, rfl⟩ .nil)))⟩⟩
    · obtain hs | rfl | rfl | hs | hs : s ≤ -1 ∨ s = 0 ∨ s = 1 ∨ (2 ≤ s ∧ s ≤ 15) ∨ 16 ≤ s := by omega
      · exact ⟨1, by decide, ⟨rfl, hs, rfl⟩, fun u v z j φ => ⟨[_, _, _, _], rfl, .cons rfl (.cons rfl (.cons rfl (.cons ⟨_, rfl, rfl⟩ .nil)))⟩⟩
      · exact ⟨2, by decide, ⟨rfl, rfl, rfl⟩, fun u v z j φ => ⟨[_, _, _, _], rfl, .cons rfl (.cons rfl (.cons rfl (.cons ⟨_, rfl, rfl⟩ .nil)))⟩⟩
      · exact ⟨3, by decide, ⟨rfl, rfl, rfl⟩, fun u v z j φ => ⟨[_, _, _, _], rfl, .cons rfl (.cons rfl (.cons rfl (.cons ⟨_, rfl, rfl⟩ .nil)))⟩⟩
      · exact ⟨4, by decide, ⟨rfl, hs.1, hs.2, rfl⟩, fun u v z j φ => ⟨[_, _, _, _], rfl, .cons rfl (.cons rfl (.cons rfl (.cons ⟨_, rfl, rfl⟩ .nil)))⟩⟩
      · exact ⟨5, by decide, ⟨rfl, hs, rfl⟩, fun u v z j φ => ⟨[_, _, _, _], rfl, .cons rfl (.cons rfl (.cons rfl (.cons ⟨_, rfl, rfl⟩ .nil)))⟩⟩
    · exact ⟨6, by decide, ⟨hp, rfl⟩, fun u v z j φ => ⟨[_, _, _, _], rfl, .cons rfl (.cons rfl (.cons rfl (.cons ⟨_, rfl, rfl⟩ .nil)))⟩⟩
  · obtain hp | rfl | hp : p ≤ -1 ∨ p = 0 ∨ 1 ≤ p := by omega
    · exact ⟨7, by decide, ⟨hp, hd⟩, fun u v z j φ => ⟨[_, _, _, _], rfl, .cons rfl (.cons rfl (.cons rfl (.cons rfl .nil)))⟩⟩
    · obtain hs | rfl | rfl | hs | hs : s ≤ -1 ∨ s = 0 ∨ s = 1 ∨ (2 ≤ s ∧ s ≤ 15) ∨ 16 ≤ s := by omega
      · exact ⟨8, by decide, ⟨rfl, hs, hd⟩, fun u v z j φ => ⟨[_, _, _, _], rfl, .cons rfl (.cons rfl (.cons rfl (.cons rfl .nil)))⟩⟩
      · exact ⟨9, by decide, ⟨rfl, rfl, hd⟩, fun u v z j φ => ⟨[_, _, _, _], rfl, .cons rfl (.cons rfl (.cons rfl (.cons rfl .nil)))⟩⟩
      · exact ⟨10, by decide, ⟨rfl, rfl, hd⟩, fun u v z j φ => ⟨[_, _, _, _], rfl, .cons rfl (.cons rfl (.cons rfl (.cons rfl .nil)))⟩⟩
      · exact ⟨11, by decide, ⟨rfl, hs.1, hs.2, hd⟩, fun u v z j φ => ⟨[_, _, _, _], rfl, .cons rfl (.cons rfl (.cons rfl (.cons rfl .nil)))⟩⟩
      · exact ⟨12, by decide, ⟨rfl, hs, hd⟩, fun u v z j φ => ⟨[_, _, _, _], rfl, .cons rfl (.cons rfl (.cons rfl (.cons rfl .nil)))⟩⟩
    · exact ⟨13, by decide, ⟨hp, hd⟩, fun u v z j φ => ⟨[_, _, _, _], rfl, .cons rfl (.cons rfl (.cons rfl (.cons rfl .nil)))⟩⟩
  · obtain rfl := hn (by decide)
    obtain hp | rfl | hp : p ≤ -1 ∨ p = 0 ∨ 1 ≤ p := by omega
    · exact ⟨14, by decide, ⟨hp, rfl⟩, fun u v z j φ => ⟨[_, _, _, _], rfl, .cons rfl (.cons rfl (.cons rfl (.cons ⟨_, rfl, rfl⟩ .nil)))⟩⟩
    · obtain hs | rfl | rfl | hs | hs : s ≤ -1 ∨ s = 0 ∨ s = 1 ∨ (2 ≤ s ∧ s ≤ 15) ∨ 16 ≤ s := by omega
      · exact ⟨15, by decide, ⟨rfl, hs, rfl⟩, fun u v z j φ => ⟨[_, _, _, _], rfl, .cons rfl (.cons rfl (.cons rfl (.cons ⟨_, rfl, rfl⟩ .nil)))⟩⟩
      · exact ⟨16, by decide, ⟨rfl, rfl, rfl⟩, fun u v z j φ => ⟨[_, _, _, _], rfl, .cons rfl (.cons rfl (.cons rfl (.cons ⟨_, rfl, rfl⟩ .nil)))⟩⟩
      · exact ⟨17, by decide, ⟨rfl, rfl, rfl⟩, fun u v z j φ => ⟨[_, _, _, _], rfl, .cons rfl (.cons rfl (.cons rfl (.cons ⟨_, rfl, rfl⟩ .nil)))⟩⟩
      · exact ⟨18, by decide, ⟨rfl, hs.1, hs.2, rfl⟩, fun u v z j φ => ⟨[_, _, _, _], rfl, .cons rfl (.cons rfl (.cons rfl (.cons ⟨_, rfl, rfl⟩ .nil)))⟩⟩
      · exact ⟨19, by decide, ⟨rfl, hs, rfl⟩, fun u v z j φ => ⟨[_, _, _, _], rfl, .cons rfl (.cons rfl (.cons rfl (.cons ⟨_, rfl, rfl⟩ .nil)))⟩⟩
    · exact ⟨20, by decide, ⟨hp, rfl⟩, fun u v z j φ => ⟨[_, _, _, _], rfl, .cons rfl (.cons rfl (.cons rfl (.cons ⟨_, rfl, rfl⟩ .nil)))⟩⟩
  · obtain rfl := hn (by decide)
    obtain hp | rfl | hp : p ≤ -1 ∨ p = 0 ∨ 1 ≤ p := by omega
    · exact ⟨21, by decide, ⟨hp, rfl⟩, fun u v z j φ => ⟨[_, _, _, _], rfl, .cons rfl (.cons rfl (.cons rfl (.cons ⟨_, rfl, rfl⟩ .nil)))⟩⟩
    · obtain hs | rfl | hs : s ≤ -1 ∨ s = 0 ∨ 1 ≤ s := by omega
      · exact ⟨22, by decide, ⟨rfl, hs, rfl⟩, fun u v z j φ => ⟨[_, _, _, _], rfl, .cons rfl (.cons rfl (.cons rfl (.cons ⟨_, rfl, rfl⟩ .nil)))⟩⟩
      · exact ⟨23, by decide, ⟨rfl, rfl, rfl⟩, fun u v z j φ => ⟨[_, _, _, _], rfl, .cons rfl (.cons rfl (.cons rfl (.cons ⟨_, rfl, rfl⟩ .nil)))⟩⟩
      · exact ⟨24, by decide, ⟨rfl, hs, rfl⟩, fun u v z j φ => ⟨[_, _, _, _], rfl, .cons rfl (.cons rfl (.cons rfl (.cons ⟨_, rfl, rfl⟩ .nil)))⟩⟩
    · exact ⟨25, by decide, ⟨hp, rfl⟩, fun u v z j φ => ⟨[_, _, _, _], rfl, .cons rfl (.cons rfl (.cons rfl (.cons ⟨_, rfl, rfl⟩ .nil)))⟩⟩
  · obtain rfl := hn (by decide)
    obtain hp | rfl | hp : p ≤ -1 ∨ p = 0 ∨ 1 ≤ p := by omega
    · obtain hs | rfl | hs : s ≤ -1 ∨ s = 0 ∨ 1 ≤ s := by omega
      · exact ⟨26, by decide, ⟨hp, hs, rfl⟩, fun u v z j φ => ⟨[_, _, _, _], rfl, .cons rfl (.cons rfl (.cons rfl (.cons ⟨_, rfl, rfl⟩ .nil)))⟩⟩
      · exact ⟨27, by decide, ⟨hp, rfl, rfl⟩, fun u v z j φ => ⟨[_, _, _, _], rfl, .cons rfl (.cons rfl (.cons rfl (.cons ⟨_, rfl, rfl⟩ .nil)))⟩⟩
      · exact ⟨28, by decide, ⟨hp, hs, rfl⟩, fun u v z j φ => ⟨[_, _, _, _], rfl, .cons rfl (.cons rfl (.cons rfl (.cons ⟨_, rfl, rfl⟩ .nil)))⟩⟩
    · obtain hs | rfl | hs : s ≤ -1 ∨ s = 0 ∨ 1 ≤ s := by omega
      · exact ⟨29, by decide, ⟨rfl, hs, rfl⟩, fun u v z j φ => ⟨[_, _, _, _], rfl, .cons rfl (.cons rfl (.cons rfl (.cons ⟨_, rfl, rfl⟩ .nil)))⟩⟩
      · exact ⟨30, by decide, ⟨rfl, rfl, rfl⟩, fun u v z j φ => ⟨[_, _, _, _], rfl, .cons rfl (.cons rfl (.cons rfl (.cons ⟨_, rfl, rfl⟩ .nil)))⟩⟩
      · exact ⟨31, by decide, ⟨rfl, hs, rfl⟩, fun u v z j φ => ⟨[_, _, _, _], rfl, .cons rfl (.cons rfl (.cons rfl (.cons ⟨_, rfl, rfl⟩ .nil)))⟩⟩
    · obtain hs | rfl | hs : s ≤ -1 ∨ s = 0 ∨ 1 ≤ s := by omega
      · exact ⟨32, by decide, ⟨hp, hs, rfl⟩, fun u v z j φ => ⟨[_, _, _, _], rfl, .cons rfl (.cons rfl (.cons rfl (.cons ⟨_, rfl, rfl⟩ .nil)))⟩⟩
      · exact ⟨33, by decide, ⟨hp, rfl, rfl⟩, fun u v z j φ => ⟨[_, _, _, _], rfl, .cons rfl (.cons rfl (.cons rfl (.cons ⟨_, rfl, rfl⟩ .nil)))⟩⟩
      · exact ⟨34, by decide, ⟨hp, hs, rfl⟩, fun u v z j φ => ⟨[_, _, _, _], rfl, .cons rfl (.cons rfl (.cons rfl (.cons ⟨_, rfl, rfl⟩ .nil)))⟩⟩
  · obtain rfl := hn (by decide)
    obtain hp | rfl | hp : p ≤ -1 ∨ p = 0 ∨ 1 ≤ p := by omega
    · exact ⟨35, by decide, ⟨hp, rfl⟩, fun u v z j φ => ⟨[_, _, _, _], rfl, .cons rfl (.cons rfl (.cons rfl (.cons ⟨_, rfl, rfl⟩ .nil)))⟩⟩
    · obtain hs | rfl | hs : s ≤ -1 ∨ s = 0 ∨ 1 ≤ s := by omega
      · exact ⟨36, by decide, ⟨rfl, hs, rfl⟩, fun u v z j φ => ⟨[_, _, _, _], rfl, .cons rfl (.cons rfl (.cons rfl (.cons ⟨_, rfl, rfl⟩ .nil)))⟩⟩
      · exact ⟨37, by decide, ⟨rfl, rfl, rfl⟩, fun u v z j φ => ⟨[_, _, _, _], rfl, .cons rfl (.cons rfl (.cons rfl (.cons ⟨_, rfl, rfl⟩ .nil)))⟩⟩
      · exact ⟨38, by decide, ⟨rfl, hs, rfl⟩, fun u v z j φ => ⟨[_, _, _, _], rfl, .cons rfl (.cons rfl (.cons rfl (.cons ⟨_, rfl, rfl⟩ .nil)))⟩⟩
    · exact ⟨39, by decide, ⟨hp, rfl⟩, fun u v z j φ => ⟨[_, _, _, _], rfl, .cons rfl (.cons rfl (.cons rfl (.cons ⟨_, rfl, rfl⟩ .nil)))⟩⟩
  · obtain rfl := hn (by decide)
    obtain hp | rfl | hp : p ≤ -1 ∨ p = 0 ∨ 1 ≤ p := by omega
    · exact ⟨40, by decide, ⟨hp, rfl⟩, fun u v z j φ => ⟨[_, _, _, _], rfl, .cons rfl (.cons rfl (.cons rfl (.cons ⟨_, rfl, rfl⟩ .nil)))⟩⟩
    · obtain hs | rfl | rfl | hs | hs : s ≤ -1 ∨ s = 0 ∨ s = 1 ∨ (2 ≤ s ∧ s ≤ 7) ∨ 8 ≤ s := by omega
      · exact ⟨41, by decide, ⟨rfl, hs, rfl⟩, fun u v z j φ => ⟨[_, _, _, _], rfl, .cons rfl (.cons rfl (.cons rfl (.cons ⟨_, rfl, rfl⟩ .nil)))⟩⟩
      · exact ⟨42, by decide, ⟨rfl, rfl, rfl⟩, fun u v z j φ => ⟨[_, _, _, _], rfl, .cons rfl (.cons rfl (.cons rfl (.cons ⟨_, rfl, rfl⟩ .nil)))⟩⟩
      · exact ⟨43, by decide, ⟨rfl, rfl, rfl⟩, fun u v z j φ => ⟨[_, _, _, _], rfl, .cons rfl (.cons rfl (.cons rfl (.cons ⟨_, rfl, rfl⟩ .nil)))⟩⟩
      · exact ⟨44, by decide, ⟨rfl, hs.1, hs.2, rfl⟩, fun u v z j φ => ⟨[_, _, _, _], rfl, .cons rfl (.cons rfl (.cons rfl (.cons ⟨_, rfl, rfl⟩ .nil)))⟩⟩
      · exact ⟨45, by decide, ⟨rfl, hs, rfl⟩, fun u v z j φ => ⟨[_, _, _, _], rfl, .cons rfl (.cons rfl (.cons rfl (.cons ⟨_, rfl, rfl⟩ .nil)))⟩⟩
    · exact ⟨46, by decide, ⟨hp, rfl⟩, fun u v z j φ => ⟨[_, _, _, _], rfl, .cons rfl (.cons rfl (.cons rfl (.cons ⟨_, rfl, rfl⟩ .nil)))⟩⟩
theorem codeF (F : List Fact) (n : Nat) : CodeOk Tryz.prog (envA F) tbl n := code_ok tbl_ok (draw_ok mixed) n
theorem rest0 {w0 : World} {N : Nat} {u v : Value} {z : Nat → Option Obj} {j p s : Int} {d : ByteArray} (hc : condC 0 p s d) : Tri Tryz.prog N wRst (At w0 N (rW u v z j p s d) (stC 0)) fun e a w => (e = .normal ∨ e = .exit 1) ∧ At w0 N (rW u v z j 0 0 ⟨#[]⟩) SH a w := by
  obtain ⟨h0, h1⟩ : p ≤ (-1) ∧ d = ⟨#[]⟩ := hc
  exact (Tri.run (codeF F0 _) (envA_ok std (List.forall_mem_cons.2 ⟨(by show icmp .geq p 0 = some false; simp [icmp]; try omega), List.forall_mem_cons.2 ⟨(by show icmp .eql p 0 = some false; simp [icmp]; try omega), List.forall_mem_nil _⟩⟩)) rR0 renH).post fun e a w h => ⟨.inl h.1, h.2⟩
theorem rest1 {w0 : World} {N : Nat} {u v : Value} {z : Nat → Option Obj} {j p s : Int} {d : ByteArray} (hc : condC 1 p s d) : Tri Tryz.prog N wRst (At w0 N (rW u v z j p s d) (stC 1)) fun e a w => (e = .normal ∨ e = .exit 1) ∧ At w0 N (rW u v z j 0 0 ⟨#[]⟩) SH a w := by
  obtain ⟨h0, h1, h2⟩ : p = 0 ∧ s ≤ (-1) ∧ d = ⟨#[]⟩ := hc
  exact (Tri.run (codeF F1 _) (envA_ok std (List.forall_mem_cons.2 ⟨(by show icmp .geq s 0 = some false; simp [icmp]; try omega), List.forall_mem_cons.2 ⟨(by show icmp .eql s 1 = some false; simp [icmp]; try omega), List.forall_mem_nil _⟩⟩)) rR1 renH).post fun e a w h => ⟨.inl h.1, h.2⟩
theorem rest2 {w0 : World} {N : Nat} {u v : Value} {z : Nat → Option Obj} {j p s : Int} {d : ByteArray} (hc : condC 2 p s d) : Tri Tryz.prog N wRst (At w0 N (rW u v z j p s d) (stC 2)) fun e a w => (e = .normal ∨ e = .exit 1) ∧ At w0 N (rW u v z j 0 0 ⟨#[]⟩) SH a w := by
  obtain ⟨h0, h1, h2⟩ : p = 0 ∧ s = 0 ∧ d = ⟨#[]⟩ := hc
  exact (Tri.run (codeF F2 _) (envA_ok std (List.forall_mem_nil _)) rR2 renH).post fun e a w h => ⟨.inl h.1, h.2⟩
theorem rest3 {w0 : World} {N : Nat} {u v : Value} {z : Nat → Option Obj} {j p s : Int} {d : ByteArray} (hc : condC 3 p s d) : Tri Tryz.prog N wRst (At w0 N (rW u v z j p s d) (stC 3)) fun e a w => (e = .normal ∨ e = .exit 1) ∧ At w0 N (rW u v z j 0 0 ⟨#[]⟩) SH a w := by
  obtain ⟨h0, h1, h2⟩ : p = 0 ∧ s = 1 ∧ d = ⟨#[]⟩ := hc
  exact (Tri.run (codeF F3 _) (envA_ok std (List.forall_mem_nil _)) rR3 renH).post fun e a w h => ⟨.inl h.1, h.2⟩
theorem rest4 {w0 : World} {N : Nat} {u v : Value} {z : Nat → Option Obj} {j p s : Int} {d : ByteArray} (hc : condC 4 p s d) : Tri Tryz.prog N wRst (At w0 N (rW u v z j p s d) (stC 4)) fun e a w => (e = .normal ∨ e = .exit 1) ∧ At w0 N (rW u v z j 0 0 ⟨#[]⟩) SH a w := by
  obtain ⟨h0, h1, h2, h3⟩ : p = 0 ∧ 2 ≤ s ∧ s ≤ 15 ∧ d = ⟨#[]⟩ := hc
  exact (Tri.run (codeF F4 _) (envA_ok std (List.forall_mem_cons.2 ⟨(by show icmp .geq s 0 = some true; simp [icmp]; try omega), List.forall_mem_cons.2 ⟨(by show icmp .leq s 15 = some true; simp [icmp]; try omega), List.forall_mem_cons.2 ⟨(by show icmp .eql 1 s = some false; simp [icmp]; try omega), List.forall_mem_cons.2 ⟨(by show icmp .eql s 1 = some false; simp [icmp]; try omega), List.forall_mem_nil _⟩⟩⟩⟩)) rR4 renH).post fun e a w h => ⟨.inl h.1, h.2⟩
theorem rest5 {w0 : World} {N : Nat} {u v : Value} {z : Nat → Option Obj} {j p s : Int} {d : ByteArray} (hc : condC 5 p s d) : Tri Tryz.prog N wRst (At w0 N (rW u v z j p s d) (stC 5)) fun e a w => (e = .normal ∨ e = .exit 1) ∧ At w0 N (rW u v z j 0 0 ⟨#[]⟩) SH a w := by
  obtain ⟨h0, h1, h2⟩ : p = 0 ∧ 16 ≤ s ∧ d = ⟨#[]⟩ := hc
  exact (Tri.run (codeF F5 _) (envA_ok std (List.forall_mem_cons.2 ⟨(by show icmp .geq s 0 = some true; simp [icmp]; try omega), List.forall_mem_cons.2 ⟨(by show icmp .leq s 15 = some false; simp [icmp]; try omega), List.forall_mem_cons.2 ⟨(by show icmp .eql s 1 = some false; simp [icmp]; try omega), List.forall_mem_nil _⟩⟩⟩)) rR5 renH).post fun e a w h => ⟨.inl h.1, h.2⟩
theorem rest6 {w0 : World} {N : Nat} {u v : Value} {z : Nat → Option Obj} {j p s : Int} {d : ByteArray} (hc : condC 6 p s d) : Tri Tryz.prog N wRst (At w0 N (rW u v z j p s d) (stC 6)) fun e a w => (e = .normal ∨ e = .exit 1) ∧ At w0 N (rW u v z j 0 0 ⟨#[]⟩) SH a w := by
  obtain ⟨h0, h1⟩ : 1 ≤ p ∧ d = ⟨#[]⟩ := hc
  exact (Tri.run (codeF F6 _) (envA_ok std (List.forall_mem_cons.2 ⟨(by show icmp .geq p 0 = some true; simp [icmp]; try omega), List.forall_mem_cons.2 ⟨(by show icmp .leq p 0 = some false; simp [icmp]; try omega), List.forall_mem_cons.2 ⟨(by show icmp .eql p 0 = some false; simp [icmp]; try omega), List.forall_mem_nil _⟩⟩⟩)) rR6 renH).post fun e a w h => ⟨.inl h.1, h.2⟩
theorem rest7 {w0 : World} {N : Nat} {u v : Value} {z : Nat → Option Obj} {j p s : Int} {d : ByteArray} (hc : condC 7 p s d) : Tri Tryz.prog N wRst (At w0 N (rW u v z j p s d) (stC 7)) fun e a w => (e = .normal ∨ e = .exit 1) ∧ At w0 N (rW u v z j 0 0 ⟨#[]⟩) SH a w := by
  obtain ⟨h0, h1⟩ : p ≤ (-1) ∧ d.size ≤ 12 := hc
  exact (Tri.run (codeF F7 _) (envA_ok std (List.forall_mem_cons.2 ⟨(by show icmp .geq p 0 = some false; simp [icmp]; try omega), List.forall_mem_nil _⟩)) rR7 renH).post fun e a w h => ⟨.inl h.1, h.2⟩
theorem rest8 {w0 : World} {N : Nat} {u v : Value} {z : Nat → Option Obj} {j p s : Int} {d : ByteArray} (hc : condC 8 p s d) : Tri Tryz.prog N wRst (At w0 N (rW u v z j p s d) (stC 8)) fun e a w => (e = .normal ∨ e = .exit 1) ∧ At w0 N (rW u v z j 0 0 ⟨#[]⟩) SH a w := by
  obtain ⟨h0, h1, h2⟩ : p = 0 ∧ s ≤ (-1) ∧ d.size ≤ 12 := hc
  exact (Tri.run (codeF F8 _) (envA_ok std (List.forall_mem_cons.2 ⟨(by show icmp .geq s 0 = some false; simp [icmp]; try omega), List.forall_mem_nil _⟩)) rR8 renH).post fun e a w h => ⟨.inl h.1, h.2⟩
theorem rest9 {w0 : World} {N : Nat} {u v : Value} {z : Nat → Option Obj} {j p s : Int} {d : ByteArray} (hc : condC 9 p s d) : Tri Tryz.prog N wRst (At w0 N (rW u v z j p s d) (stC 9)) fun e a w => (e = .normal ∨ e = .exit 1) ∧ At w0 N (rW u v z j 0 0 ⟨#[]⟩) SH a w := by
  obtain ⟨h0, h1, h2⟩ : p = 0 ∧ s = 0 ∧ d.size ≤ 12 := hc
  exact (Tri.run (codeF F9 _) (envA_ok std (List.forall_mem_cons.2 ⟨⟨Int.natCast_nonneg _, by show (d.size : Int) ≤ 12; omega⟩, List.forall_mem_nil _⟩)) rR9 renH).post fun e a w h => ⟨.inl h.1, h.2⟩
theorem rest10 {w0 : World} {N : Nat} {u v : Value} {z : Nat → Option Obj} {j p s : Int} {d : ByteArray} (hc : condC 10 p s d) : Tri Tryz.prog N wRst (At w0 N (rW u v z j p s d) (stC 10)) fun e a w => (e = .normal ∨ e = .exit 1) ∧ At w0 N (rW u v z j 0 0 ⟨#[]⟩) SH a w := by
  obtain ⟨h0, h1, h2⟩ : p = 0 ∧ s = 1 ∧ d.size ≤ 12 := hc
  exact (Tri.run (codeF F10 _) (envA_ok std (List.forall_mem_cons.2 ⟨⟨Int.natCast_nonneg _, by show (d.size : Int) ≤ 12; omega⟩, List.forall_mem_nil _⟩)) rR10 renH).post fun e a w h => ⟨.inl h.1, h.2⟩
theorem rest11 {w0 : World} {N : Nat} {u v : Value} {z : Nat → Option Obj} {j p s : Int} {d : ByteArray} (hc : condC 11 p s d) : Tri Tryz.prog N wRst (At w0 N (rW u v z j p s d) (stC 11)) fun e a w => (e = .normal ∨ e = .exit 1) ∧ At w0 N (rW u v z j 0 0 ⟨#[]⟩) SH a w := by
  obtain ⟨h0, h1, h2, h3⟩ : p = 0 ∧ 2 ≤ s ∧ s ≤ 15 ∧ d.size ≤ 12 := hc
  exact (Tri.run (codeF F11 _) (envA_ok std (List.forall_mem_cons.2 ⟨(by show icmp .geq s 0 = some true; simp [icmp]; try omega), List.forall_mem_cons.2 ⟨(by show icmp .leq s 15 = some true; simp [icmp]; try omega), List.forall_mem_cons.2 ⟨⟨Int.natCast_nonneg _, by show (d.size : Int) ≤ 12; omega⟩, List.forall_mem_cons.2 ⟨(by show icmp .eql 1 s = some false; simp [icmp]; try omega), List.forall_mem_nil _⟩⟩⟩⟩)) rR11 renH).post fun e a w h => ⟨.inl h.1, h.2⟩
theorem rest12 {w0 : World} {N : Nat} {u v : Value} {z : Nat → Option Obj} {j p s : Int} {d : ByteArray} (hc : condC 12 p s d) : Tri Tryz.prog N wRst (At w0 N (rW u v z j p s d) (stC 12)) fun e a w => (e = .normal ∨ e = .exit 1) ∧ At w0 N (rW u v z j 0 0 ⟨#[]⟩) SH a w := by
  obtain ⟨h0, h1, h2⟩ : p = 0 ∧ 16 ≤ s ∧ d.size ≤ 12 := hc
  exact (Tri.run (codeF F12 _) (envA_ok std (List.forall_mem_cons.2 ⟨(by show icmp .geq s 0 = some true; simp [icmp]; try omega), List.forall_mem_cons.2 ⟨(by show icmp .leq s 15 = some false; simp [icmp]; try omega), List.forall_mem_nil _⟩⟩)) rR12 renH).post fun e a w h => ⟨.inl h.1, h.2⟩
theorem rest13 {w0 : World} {N : Nat} {u v : Value} {z : Nat → Option Obj} {j p s : Int} {d : ByteArray} (hc : condC 13 p s d) : Tri Tryz.prog N wRst (At w0 N (rW u v z j p s d) (stC 13)) fun e a w => (e = .normal ∨ e = .exit 1) ∧ At w0 N (rW u v z j 0 0 ⟨#[]⟩) SH a w := by
  obtain ⟨h0, h1⟩ : 1 ≤ p ∧ d.size ≤ 12 := hc
  exact (Tri.run (codeF F13 _) (envA_ok std (List.forall_mem_cons.2 ⟨(by show icmp .geq p 0 = some true; simp [icmp]; try omega), List.forall_mem_cons.2 ⟨(by show icmp .leq p 0 = some false; simp [icmp]; try omega), List.forall_mem_nil _⟩⟩)) rR13 renH).post fun e a w h => ⟨.inl h.1, h.2⟩
theorem rest14 {w0 : World} {N : Nat} {u v : Value} {z : Nat → Option Obj} {j p s : Int} {d : ByteArray} (hc : condC 14 p s d) : Tri Tryz.prog N wRst (At w0 N (rW u v z j p s d) (stC 14)) fun e a w => (e = .normal ∨ e = .exit 1) ∧ At w0 N (rW u v z j 0 0 ⟨#[]⟩) SH a w := by
  obtain ⟨h0, h1⟩ : p ≤ (-1) ∧ d = ⟨#[]⟩ := hc
  exact (Tri.run (codeF F14 _) (envA_ok std (List.forall_mem_cons.2 ⟨(by show icmp .geq p 0 = some false; simp [icmp]; try omega), List.forall_mem_nil _⟩)) rR14 renH).post fun e a w h => ⟨.inl h.1, h.2⟩
theorem rest15 {w0 : World} {N : Nat} {u v : Value} {z : Nat → Option Obj} {j p s : Int} {d : ByteArray} (hc : condC 15 p s d) : Tri Tryz.prog N wRst (At w0 N (rW u v z j p s d) (stC 15)) fun e a w => (e = .normal ∨ e = .exit 1) ∧ At w0 N (rW u v z j 0 0 ⟨#[]⟩) SH a w := by
  obtain ⟨h0, h1, h2⟩ : p = 0 ∧ s ≤ (-1) ∧ d = ⟨#[]⟩ := hc
  exact (Tri.run (codeF F15 _) (envA_ok std (List.forall_mem_cons.2 ⟨(by show icmp .geq s 0 = some false; simp [icmp]; try omega), List.forall_mem_nil _⟩)) rR15 renH).post fun e a w h => ⟨.inl h.1, h.2⟩
theorem rest16 {w0 : World} {N : Nat} {u v : Value} {z : Nat → Option Obj} {j p s : Int} {d : ByteArray} (hc : condC 16 p s d) : Tri Tryz.prog N wRst (At w0 N (rW u v z j p s d) (stC 16)) fun e a w => (e = .normal ∨ e = .exit 1) ∧ At w0 N (rW u v z j 0 0 ⟨#[]⟩) SH a w := by
  obtain ⟨h0, h1, h2⟩ : p = 0 ∧ s = 0 ∧ d = ⟨#[]⟩ := hc
  exact (Tri.run (codeF F16 _) (envA_ok std (List.forall_mem_nil _)) rR16 renH).post fun e a w h => ⟨.inl h.1, h.2⟩
theorem rest17 {w0 : World} {N : Nat} {u v : Value} {z : Nat → Option Obj} {j p s : Int} {d : ByteArray} (hc : condC 17 p s d) : Tri Tryz.prog N wRst (At w0 N (rW u v z j p s d) (stC 17)) fun e a w => (e = .normal ∨ e = .exit 1) ∧ At w0 N (rW u v z j 0 0 ⟨#[]⟩) SH a w := by
  obtain ⟨h0, h1, h2⟩ : p = 0 ∧ s = 1 ∧ d = ⟨#[]⟩ := hc
  exact (Tri.run (codeF F17 _) (envA_ok std (List.forall_mem_nil _)) rR17 renH).post fun e a w h => ⟨.inl h.1, h.2⟩
theorem rest18 {w0 : World} {N : Nat} {u v : Value} {z : Nat → Option Obj} {j p s : Int} {d : ByteArray} (hc : condC 18 p s d) : Tri Tryz.prog N wRst (At w0 N (rW u v z j p s d) (stC 18)) fun e a w => (e = .normal ∨ e = .exit 1) ∧ At w0 N (rW u v z j 0 0 ⟨#[]⟩) SH a w := by
  obtain ⟨h0, h1, h2, h3⟩ : p = 0 ∧ 2 ≤ s ∧ s ≤ 15 ∧ d = ⟨#[]⟩ := hc
  exact (Tri.run (codeF F18 _) (envA_ok std (List.forall_mem_cons.2 ⟨(by show icmp .geq s 0 = some true; simp [icmp]; try omega), List.forall_mem_cons.2 ⟨(by show icmp .leq s 15 = some true; simp [icmp]; try omega), List.forall_mem_cons.2 ⟨(by show icmp .eql 1 s = some false; simp [icmp]; try omega), List.forall_mem_nil _⟩⟩⟩)) rR18 renH).post fun e a w h => ⟨.inl h.1, h.2⟩
theorem rest19 {w0 : World} {N : Nat} {u v : Value} {z : Nat → Option Obj} {j p s : Int} {d : ByteArray} (hc : condC 19 p s d) : Tri Tryz.prog N wRst (At w0 N (rW u v z j p s d) (stC 19)) fun e a w => (e = .normal ∨ e = .exit 1) ∧ At w0 N (rW u v z j 0 0 ⟨#[]⟩) SH a w := by
  obtain ⟨h0, h1, h2⟩ : p = 0 ∧ 16 ≤ s ∧ d = ⟨#[]⟩ := hc
  exact (Tri.run (codeF F19 _) (envA_ok std (List.forall_mem_cons.2 ⟨(by show icmp .geq s 0 = some true; simp [icmp]; try omega), List.forall_mem_cons.2 ⟨(by show icmp .leq s 15 = some false; simp [icmp]; try omega), List.forall_mem_nil _⟩⟩)) rR19 renH).post fun e a w h => ⟨.inl h.1, h.2⟩
theorem rest20 {w0 : World} {N : Nat} {u v : Value} {z : Nat → Option Obj} {j p s : Int} {d : ByteArray} (hc : condC 20 p s d) : Tri Tryz.prog N wRst (At w0 N (rW u v z j p s d) (stC 20)) fun e a w => (e = .normal ∨ e = .exit 1) ∧ At w0 N (rW u v z j 0 0 ⟨#[]⟩) SH a w := by
  obtain ⟨h0, h1⟩ : 1 ≤ p ∧ d = ⟨#[]⟩ := hc
  exact (Tri.run (codeF F20 _) (envA_ok std (List.forall_mem_cons.2 ⟨(by show icmp .geq p 0 = some true; simp [icmp]; try omega), List.forall_mem_cons.2 ⟨(by show icmp .leq p 0 = some false; simp [icmp]; try omega), List.forall_mem_nil _⟩⟩)) rR20 renH).post fun e a w h => ⟨.inl h.1, h.2⟩
theorem rest21 {w0 : World} {N : Nat} {u v : Value} {z : Nat → Option Obj} {j p s : Int} {d : ByteArray} (hc : condC 21 p s d) : Tri Tryz.prog N wRst (At w0 N (rW u v z j p s d) (stC 21)) fun e a w => (e = .normal ∨ e = .exit 1) ∧ At w0 N (rW u v z j 0 0 ⟨#[]⟩) SH a w := by
  obtain ⟨h0, h1⟩ : p ≤ (-1) ∧ d = ⟨#[]⟩ := hc
  exact (Tri.run (codeF F21 _) (envA_ok std (List.forall_mem_cons.2 ⟨(by show icmp .geq p 0 = some false; simp [icmp]; try omega), List.forall_mem_nil _⟩)) rR21 renH).post fun e a w h => ⟨.inl h.1, h.2⟩
theorem rest22 {w0 : World} {N : Nat} {u v : Value} {z : Nat → Option Obj} {j p s : Int} {d : ByteArray} (hc : condC 22 p s d) : Tri Tryz.prog N wRst (At w0 N (rW u v z j p s d) (stC 22)) fun e a w => (e = .normal ∨ e = .exit 1) ∧ At w0 N (rW u v z j 0 0 ⟨#[]⟩) SH a w := by
  obtain ⟨h0, h1, h2⟩ : p = 0 ∧ s ≤ (-1) ∧ d = ⟨#[]⟩ := hc
  exact (Tri.run (codeF F22 _) (envA_ok std (List.forall_mem_cons.2 ⟨(by show icmp .geq s 0 = some false; simp [icmp]; try omega), List.forall_mem_nil _⟩)) rR22 renH).post fun e a w h => ⟨.inl h.1, h.2⟩
theorem rest23 {w0 : World} {N : Nat} {u v : Value} {z : Nat → Option Obj} {j p s : Int} {d : ByteArray} (hc : condC 23 p s d) : Tri Tryz.prog N wRst (At w0 N (rW u v z j p s d) (stC 23)) fun e a w => (e = .normal ∨ e = .exit 1) ∧ At w0 N (rW u v z j 0 0 ⟨#[]⟩) SH a w := by
  obtain ⟨h0, h1, h2⟩ : p = 0 ∧ s = 0 ∧ d = ⟨#[]⟩ := hc
  exact (Tri.run (codeF F23 _) (envA_ok std (List.forall_mem_nil _)) rR23 renH).post fun e a w h => ⟨.inl h.1, h.2⟩
theorem rest24 {w0 : World} {N : Nat} {u v : Value} {z : Nat → Option Obj} {j p s : Int} {d : ByteArray} (hc : condC 24 p s d) : Tri Tryz.prog N wRst (At w0 N (rW u v z j p s d) (stC 24)) fun e a w => (e = .normal ∨ e = .exit 1) ∧ At w0 N (rW u v z j 0 0 ⟨#[]⟩) SH a w := by
  obtain ⟨h0, h1, h2⟩ : p = 0 ∧ 1 ≤ s ∧ d = ⟨#[]⟩ := hc
  exact (Tri.run (codeF F24 _) (envA_ok std (List.forall_mem_cons.2 ⟨(by show icmp .geq s 0 = some true; simp [icmp]; try omega), List.forall_mem_cons.2 ⟨(by show icmp .leq s 0 = some false; simp [icmp]; try omega), List.forall_mem_nil _⟩⟩)) rR24 renH).post fun e a w h => ⟨.inl h.1, h.2⟩
theorem rest25 {w0 : World} {N : Nat} {u v : Value} {z : Nat → Option Obj} {j p s : Int} {d : ByteArray} (hc : condC 25 p s d) : Tri Tryz.prog N wRst (At w0 N (rW u v z j p s d) (stC 25)) fun e a w => (e = .normal ∨ e = .exit 1) ∧ At w0 N (rW u v z j 0 0 ⟨#[]⟩) SH a w := by
  obtain ⟨h0, h1⟩ : 1 ≤ p ∧ d = ⟨#[]⟩ := hc
  exact (Tri.run (codeF F25 _) (envA_ok std (List.forall_mem_cons.2 ⟨(by show icmp .geq p 0 = some true; simp [icmp]; try omega), List.forall_mem_cons.2 ⟨(by show icmp .leq p 0 = some false; simp [icmp]; try omega), List.forall_mem_nil _⟩⟩)) rR25 renH).post fun e a w h => ⟨.inl h.1, h.2⟩
theorem rest26 {w0 : World} {N : Nat} {u v : Value} {z : Nat → Option Obj} {j p s : Int} {d : ByteArray} (hc : condC 26 p s d) : Tri Tryz.prog N wRst (At w0 N (rW u v z j p s d) (stC 26)) fun e a w => (e = .normal ∨ e = .exit 1) ∧ At w0 N (rW u v z j 0 0 ⟨#[]⟩) SH a w := by
  obtain ⟨h0, h1, h2⟩ : p ≤ (-1) ∧ s ≤ (-1) ∧ d = ⟨#[]⟩ := hc
  exact (Tri.run (codeF F26 _) (envA_ok std (List.forall_mem_cons.2 ⟨(by show icmp .geq p 0 = some false; simp [icmp]; try omega), List.forall_mem_cons.2 ⟨(by show icmp .eql p 0 = some false; simp [icmp]; try omega), List.forall_mem_cons.2 ⟨(by show icmp .eql s 0 = some false; simp [icmp]; try omega), List.forall_mem_nil _⟩⟩⟩)) rR26 renH).post fun e a w h => ⟨.inl h.1, h.2⟩
theorem rest27 {w0 : World} {N : Nat} {u v : Value} {z : Nat → Option Obj} {j p s : Int} {d : ByteArray} (hc : condC 27 p s d) : Tri Tryz.prog N wRst (At w0 N (rW u v z j p s d) (stC 27)) fun e a w => (e = .normal ∨ e = .exit 1) ∧ At w0 N (rW u v z j 0 0 ⟨#[]⟩) SH a w := by
  obtain ⟨h0, h1, h2⟩ : p ≤ (-1) ∧ s = 0 ∧ d = ⟨#[]⟩ := hc
  exact (Tri.run (codeF F27 _) (envA_ok std (List.forall_mem_cons.2 ⟨(by show icmp .geq p 0 = some false; simp [icmp]; try omega), List.forall_mem_cons.2 ⟨(by show icmp .eql p 0 = some false; simp [icmp]; try omega), List.forall_mem_nil _⟩⟩)) rR27 renH).post fun e a w h => ⟨.inl h.1, h.2⟩
theorem rest28 {w0 : World} {N : Nat} {u v : Value} {z : Nat → Option Obj} {j p s : Int} {d : ByteArray} (hc : condC 28 p s d) : Tri Tryz.prog N wRst (At w0 N (rW u v z j p s d) (stC 28)) fun e a w => (e = .normal ∨ e = .exit 1) ∧ At w0 N (rW u v z j 0 0 ⟨#[]⟩) SH a w := by
  obtain ⟨h0, h1, h2⟩ : p ≤ (-1) ∧ 1 ≤ s ∧ d = ⟨#[]⟩ := hc
  exact (Tri.run (codeF F28 _) (envA_ok std (List.forall_mem_cons.2 ⟨(by show icmp .geq p 0 = some false; simp [icmp]; try omega), List.forall_mem_cons.2 ⟨(by show icmp .eql p 0 = some false; simp [icmp]; try omega), List.forall_mem_cons.2 ⟨(by show icmp .eql s 0 = some false; simp [icmp]; try omega), List.forall_mem_nil _⟩⟩⟩)) rR28 renH).post fun e a w h => ⟨.inl h.1, h.2⟩
theorem rest29 {w0 : World} {N : Nat} {u v : Value} {z : Nat → Option Obj} {j p s : Int} {d : ByteArray} (hc : condC 29 p s d) : Tri Tryz.prog N wRst (At w0 N (rW u v z j p s d) (stC 29)) fun e a w => (e = .normal ∨ e = .exit 1) ∧ At w0 N (rW u v z j 0 0 ⟨#[]⟩) SH a w := by
  obtain ⟨h0, h1, h2⟩ : p = 0 ∧ s ≤ (-1) ∧ d = ⟨#[]⟩ := hc
  exact (Tri.run (codeF F29 _) (envA_ok std (List.forall_mem_cons.2 ⟨(by show icmp .geq s 0 = some false; simp [icmp]; try omega), List.forall_mem_cons.2 ⟨(by show icmp .eql s 0 = some false; simp [icmp]; try omega), List.forall_mem_nil _⟩⟩)) rR29 renH).post fun e a w h => ⟨.inl h.1, h.2⟩
theorem rest30 {w0 : World} {N : Nat} {u v : Value} {z : Nat → Option Obj} {j p s : Int} {d : ByteArray} (hc : condC 30 p s d) : Tri Tryz.prog N wRst (At w0 N (rW u v z j p s d) (stC 30)) fun e a w => (e = .normal ∨ e = .exit 1) ∧ At w0 N (rW u v z j 0 0 ⟨#[]⟩) SH a w := by
  obtain ⟨h0, h1, h2⟩ : p = 0 ∧ s = 0 ∧ d = ⟨#[]⟩ := hc
  exact (Tri.run (codeF F30 _) (envA_ok std (List.forall_mem_nil _)) rR30 renH).post fun e a w h => ⟨.inr h.1, h.2⟩
theorem rest31 {w0 : World} {N : Nat} {u v : Value} {z : Nat → Option Obj} {j p s : Int} {d : ByteArray} (hc : condC 31 p s d) : Tri Tryz.prog N wRst (At w0 N (rW u v z j p s d) (stC 31)) fun e a w => (e = .normal ∨ e = .exit 1) ∧ At w0 N (rW u v z j 0 0 ⟨#[]⟩) SH a w := by
  obtain ⟨h0, h1, h2⟩ : p = 0 ∧ 1 ≤ s ∧ d = ⟨#[]⟩ := hc
  exact (Tri.run (codeF F31 _) (envA_ok std (List.forall_mem_cons.2 ⟨(by show icmp .geq s 0 = some true; simp [icmp]; try omega), List.forall_mem_cons.2 ⟨(by show icmp .leq s 0 = some false; simp [icmp]; try omega), List.forall_mem_cons.2 ⟨(by show icmp .eql s 0 = some false; simp [icmp]; try omega), List.forall_mem_nil _⟩⟩⟩)) rR31 renH).post fun e a w h => ⟨.inl h.1, h.2⟩
theorem rest32 {w0 : World} {N : Nat} {u v : Value} {z : Nat → Option Obj} {j p s : Int} {d : ByteArray} (hc : condC 32 p s d) : Tri Tryz.prog N wRst (At w0 N (rW u v z j p s d) (stC 32)) fun e a w => (e = .normal ∨ e = .exit 1) ∧ At w0 N (rW u v z j 0 0 ⟨#[]⟩) SH a w := by
  obtain ⟨h0, h1, h2⟩ : 1 ≤ p ∧ s ≤ (-1) ∧ d = ⟨#[]⟩ := hc
  exact (Tri.run (codeF F32 _) (envA_ok std (List.forall_mem_cons.2 ⟨(by show icmp .geq p 0 = some true; simp [icmp]; try omega), List.forall_mem_cons.2 ⟨(by show icmp .leq p 0 = some false; simp [icmp]; try omega), List.forall_mem_cons.2 ⟨(by show icmp .eql p 0 = some false; simp [icmp]; try omega), List.forall_mem_cons.2 ⟨(by show icmp .eql s 0 = some false; simp [icmp]; try omega), List.forall_mem_nil _⟩⟩⟩⟩)) rR32 renH).post fun e a w h => ⟨.inl h.1, h.2⟩
theorem rest33 {w0 : World} {N : Nat} {u v : Value} {z : Nat → Option Obj} {j p s : Int} {d : ByteArray} (hc : condC 33 p s d) : Tri Tryz.prog N wRst (At w0 N (rW u v z j p s d) (stC 33)) fun e a w => (e = .normal ∨ e = .exit 1) ∧ At w0 N (rW u v z j 0 0 ⟨#[]⟩) SH a w := by
  obtain ⟨h0, h1, h2⟩ : 1 ≤ p ∧ s = 0 ∧ d = ⟨#[]⟩ := hc
  exact (Tri.run (codeF F33 _) (envA_ok std (List.forall_mem_cons.2 ⟨(by show icmp .geq p 0 = some true; simp [icmp]; try omega), List.forall_mem_cons.2 ⟨(by show icmp .leq p 0 = some false; simp [icmp]; try omega), List.forall_mem_cons.2 ⟨(by show icmp .eql p 0 = some false; simp [icmp]; try omega), List.forall_mem_nil _⟩⟩⟩)) rR33 renH).post fun e a w h => ⟨.inl h.1, h.2⟩
theorem rest34 {w0 : World} {N : Nat} {u v : Value} {z : Nat → Option Obj} {j p s : Int} {d : ByteArray} (hc : condC 34 p s d) : Tri Tryz.prog N wRst (At w0 N (rW u v z j p s d) (stC 34)) fun e a w => (e = .normal ∨ e = .exit 1) ∧ At w0 N (rW u v z j 0 0 ⟨#[]⟩) SH a w := by
  obtain ⟨h0, h1, h2⟩ : 1 ≤ p ∧ 1 ≤ s ∧ d = ⟨#[]⟩ := hc
  exact (Tri.run (codeF F34 _) (envA_ok std (List.forall_mem_cons.2 ⟨(by show icmp .geq p 0 = some true; simp [icmp]; try omega), List.forall_mem_cons.2 ⟨(by show icmp .leq p 0 = some false; simp [icmp]; try omega), List.forall_mem_cons.2 ⟨(by show icmp .eql p 0 = some false; simp [icmp]; try omega), List.forall_mem_cons.2 ⟨(by show icmp .eql s 0 = some false; simp [icmp]; try omega), List.forall_mem_nil _⟩⟩⟩⟩)) rR34 renH).post fun e a w h => ⟨.inl h.1, h.2⟩
theorem rest35 {w0 : World} {N : Nat} {u v : Value} {z : Nat → Option Obj} {j p s : Int} {d : ByteArray} (hc : condC 35 p s d) : Tri Tryz.prog N wRst (At w0 N (rW u v z j p s d) (stC 35)) fun e a w => (e = .normal ∨ e = .exit 1) ∧ At w0 N (rW u v z j 0 0 ⟨#[]⟩) SH a w := by
  obtain ⟨h0, h1⟩ : p ≤ (-1) ∧ d = ⟨#[]⟩ := hc
  exact (Tri.run (codeF F35 _) (envA_ok std (List.forall_mem_cons.2 ⟨(by show icmp .geq p 0 = some false; simp [icmp]; try omega), List.forall_mem_nil _⟩)) rR35 renH).post fun e a w h => ⟨.inl h.1, h.2⟩
theorem rest36 {w0 : World} {N : Nat} {u v : Value} {z : Nat → Option Obj} {j p s : Int} {d : ByteArray} (hc : condC 36 p s d) : Tri Tryz.prog N wRst (At w0 N (rW u v z j p s d) (stC 36)) fun e a w => (e = .normal ∨ e = .exit 1) ∧ At w0 N (rW u v z j 0 0 ⟨#[]⟩) SH a w := by
  obtain ⟨h0, h1, h2⟩ : p = 0 ∧ s ≤ (-1) ∧ d = ⟨#[]⟩ := hc
  exact (Tri.run (codeF F36 _) (envA_ok std (List.forall_mem_cons.2 ⟨(by show icmp .geq s 0 = some false; simp [icmp]; try omega), List.forall_mem_nil _⟩)) rR36 renH).post fun e a w h => ⟨.inl h.1, h.2⟩
theorem rest37 {w0 : World} {N : Nat} {u v : Value} {z : Nat → Option Obj} {j p s : Int} {d : ByteArray} (hc : condC 37 p s d) : Tri Tryz.prog N wRst (At w0 N (rW u v z j p s d) (stC 37)) fun e a w => (e = .normal ∨ e = .exit 1) ∧ At w0 N (rW u v z j 0 0 ⟨#[]⟩) SH a w := by
  obtain ⟨h0, h1, h2⟩ : p = 0 ∧ s = 0 ∧ d = ⟨#[]⟩ := hc
  exact (Tri.run (codeF F37 _) (envA_ok std (List.forall_mem_nil _)) rR37 renH).post fun e a w h => ⟨.inl h.1, h.2⟩
theorem rest38 {w0 : World} {N : Nat} {u v : Value} {z : Nat → Option Obj} {j p s : Int} {d : ByteArray} (hc : condC 38 p s d) : Tri Tryz.prog N wRst (At w0 N (rW u v z j p s d) (stC 38)) fun e a w => (e = .normal ∨ e = .exit 1) ∧ At w0 N (rW u v z j 0 0 ⟨#[]⟩) SH a w := by
  obtain ⟨h0, h1, h2⟩ : p = 0 ∧ 1 ≤ s ∧ d = ⟨#[]⟩ := hc
  exact (Tri.run (codeF F38 _) (envA_ok std (List.forall_mem_cons.2 ⟨(by show icmp .geq s 0 = some true; simp [icmp]; try omega), List.forall_mem_cons.2 ⟨(by show icmp .leq s 0 = some false; simp [icmp]; try omega), List.forall_mem_nil _⟩⟩)) rR38 renH).post fun e a w h => ⟨.inl h.1, h.2⟩
theorem rest39 {w0 : World} {N : Nat} {u v : Value} {z : Nat → Option Obj} {j p s : Int} {d : ByteArray} (hc : condC 39 p s d) : Tri Tryz.prog N wRst (At w0 N (rW u v z j p s d) (stC 39)) fun e a w => (e = .normal ∨ e = .exit 1) ∧ At w0 N (rW u v z j 0 0 ⟨#[]⟩) SH a w := by
  obtain ⟨h0, h1⟩ : 1 ≤ p ∧ d = ⟨#[]⟩ := hc
  exact (Tri.run (codeF F39 _) (envA_ok std (List.forall_mem_cons.2 ⟨(by show icmp .geq p 0 = some true; simp [icmp]; try omega), List.forall_mem_cons.2 ⟨(by show icmp .leq p 0 = some false; simp [icmp]; try omega), List.forall_mem_nil _⟩⟩)) rR39 renH).post fun e a w h => ⟨.inl h.1, h.2⟩
theorem rest40 {w0 : World} {N : Nat} {u v : Value} {z : Nat → Option Obj} {j p s : Int} {d : ByteArray} (hc : condC 40 p s d) : Tri Tryz.prog N wRst (At w0 N (rW u v z j p s d) (stC 40)) fun e a w => (e = .normal ∨ e = .exit 1) ∧ At w0 N (rW u v z j 0 0 ⟨#[]⟩) SH a w := by
  obtain ⟨h0, h1⟩ : p ≤ (-1) ∧ d = ⟨#[]⟩ := hc
  exact (Tri.run (codeF F40 _) (envA_ok std (List.forall_mem_cons.2 ⟨(by show icmp .geq p 0 = some false; simp [icmp]; try omega), List.forall_mem_nil _⟩)) rR40 renH).post fun e a w h => ⟨.inl h.1, h.2⟩
theorem rest41 {w0 : World} {N : Nat} {u v : Value} {z : Nat → Option Obj} {j p s : Int} {d : ByteArray} (hc : condC 41 p s d) : Tri Tryz.prog N wRst (At w0 N (rW u v z j p s d) (stC 41)) fun e a w => (e = .normal ∨ e = .exit 1) ∧ At w0 N (rW u v z j 0 0 ⟨#[]⟩) SH a w := by
  obtain ⟨h0, h1, h2⟩ : p = 0 ∧ s ≤ (-1) ∧ d = ⟨#[]⟩ := hc
  exact (Tri.run (codeF F41 _) (envA_ok std (List.forall_mem_cons.2 ⟨(by show icmp .geq s 0 = some false; simp [icmp]; try omega), List.forall_mem_nil _⟩)) rR41 renH).post fun e a w h => ⟨.inl h.1, h.2⟩
theorem rest42 {w0 : World} {N : Nat} {u v : Value} {z : Nat → Option Obj} {j p s : Int} {d : ByteArray} (hc : condC 42 p s d) : Tri Tryz.prog N wRst (At w0 N (rW u v z j p s d) (stC 42)) fun e a w => (e = .normal ∨ e = .exit 1) ∧ At w0 N (rW u v z j 0 0 ⟨#[]⟩) SH a w := by
  obtain ⟨h0, h1, h2⟩ : p = 0 ∧ s = 0 ∧ d = ⟨#[]⟩ := hc
  exact (Tri.run (codeF F42 _) (envA_ok std (List.forall_mem_nil _)) rR42 renH).post fun e a w h => ⟨.inl h.1, h.2⟩
theorem rest43 {w0 : World} {N : Nat} {u v : Value} {z : Nat → Option Obj} {j p s : Int} {d : ByteArray} (hc : condC 43 p s d) : Tri Tryz.prog N wRst (At w0 N (rW u v z j p s d) (stC 43)) fun e a w => (e = .normal ∨ e = .exit 1) ∧ At w0 N (rW u v z j 0 0 ⟨#[]⟩) SH a w := by
  obtain ⟨h0, h1, h2⟩ : p = 0 ∧ s = 1 ∧ d = ⟨#[]⟩ := hc
  exact (Tri.run (codeF F43 _) (envA_ok std (List.forall_mem_nil _)) rR43 renH).post fun e a w h => ⟨.inl h.1, h.2⟩
theorem rest44 {w0 : World} {N : Nat} {u v : Value} {z : Nat → Option Obj} {j p s : Int} {d : ByteArray} (hc : condC 44 p s d) : Tri Tryz.prog N wRst (At w0 N (rW u v z j p s d) (stC 44)) fun e a w => (e = .normal ∨ e = .exit 1) ∧ At w0 N (rW u v z j 0 0 ⟨#[]⟩) SH a w := by
  obtain ⟨h0, h1, h2, h3⟩ : p = 0 ∧ 2 ≤ s ∧ s ≤ 7 ∧ d = ⟨#[]⟩ := hc
  exact (Tri.run (codeF F44 _) (envA_ok std (List.forall_mem_cons.2 ⟨(by show icmp .geq s 0 = some true; simp [icmp]; try omega), List.forall_mem_cons.2 ⟨(by show icmp .leq s 7 = some true; simp [icmp]; try omega), List.forall_mem_cons.2 ⟨(by show icmp .eql 1 s = some false; simp [icmp]; try omega), List.forall_mem_nil _⟩⟩⟩)) rR44 renH).post fun e a w h => ⟨.inl h.1, h.2⟩
theorem rest45 {w0 : World} {N : Nat} {u v : Value} {z : Nat → Option Obj} {j p s : Int} {d : ByteArray} (hc : condC 45 p s d) : Tri Tryz.prog N wRst (At w0 N (rW u v z j p s d) (stC 45)) fun e a w => (e = .normal ∨ e = .exit 1) ∧ At w0 N (rW u v z j 0 0 ⟨#[]⟩) SH a w := by
  obtain ⟨h0, h1, h2⟩ : p = 0 ∧ 8 ≤ s ∧ d = ⟨#[]⟩ := hc
  exact (Tri.run (codeF F45 _) (envA_ok std (List.forall_mem_cons.2 ⟨(by show icmp .geq s 0 = some true; simp [icmp]; try omega), List.forall_mem_cons.2 ⟨(by show icmp .leq s 7 = some false; simp [icmp]; try omega), List.forall_mem_nil _⟩⟩)) rR45 renH).post fun e a w h => ⟨.inl h.1, h.2⟩
theorem rest46 {w0 : World} {N : Nat} {u v : Value} {z : Nat → Option Obj} {j p s : Int} {d : ByteArray} (hc : condC 46 p s d) : Tri Tryz.prog N wRst (At w0 N (rW u v z j p s d) (stC 46)) fun e a w => (e = .normal ∨ e = .exit 1) ∧ At w0 N (rW u v z j 0 0 ⟨#[]⟩) SH a w := by
  obtain ⟨h0, h1⟩ : 1 ≤ p ∧ d = ⟨#[]⟩ := hc
  exact (Tri.run (codeF F46 _) (envA_ok std (List.forall_mem_cons.2 ⟨(by show icmp .geq p 0 = some true; simp [icmp]; try omega), List.forall_mem_cons.2 ⟨(by show icmp .leq p 0 = some false; simp [icmp]; try omega), List.forall_mem_nil _⟩⟩)) rR46 renH).post fun e a w h => ⟨.inl h.1, h.2⟩
theorem rest {w0 : World} {N : Nat} {u v : Value} {z : Nat → Option Obj} {j p s : Int} {d : ByteArray} : ∀ i, i < 47 → condC i p s d → Tri Tryz.prog N wRst (At w0 N (rW u v z j p s d) (stC i)) fun e a w => (e = .normal ∨ e = .exit 1) ∧ At w0 N (rW u v z j 0 0 ⟨#[]⟩) SH a w
  | 0, _, hc => rest0 hc
  | 1, _, hc => rest1 hc
  | 2, _, hc => rest2 hc
  | 3, _, hc => rest3 hc
  | 4, _, hc => rest4 hc
  | 5, _, hc => rest5 hc
  | 6, _, hc => rest6 hc
  | 7, _, hc => rest7 hc
  | 8, _, hc => rest8 hc
  | 9, _, hc => rest9 hc
  | 10, _, hc => rest10 hc
  | 11, _, hc => rest11 hc
  | 12, _, hc => rest12 hc
  | 13, _, hc => rest13 hc
  | 14, _, hc => rest14 hc
  | 15, _, hc => rest15 hc
  | 16, _, hc => rest16 hc
  | 17, _, hc => rest17 hc
  | 18, _, hc => rest18 hc
  | 19, _, hc => rest19 hc
  | 20, _, hc => rest20 hc
  | 21, _, hc => rest21 hc
  | 22, _, hc => rest22 hc
  | 23, _, hc => rest23 hc
  | 24, _, hc => rest24 hc
  | 25, _, hc => rest25 hc
  | 26, _, hc => rest26 hc
  | 27, _, hc => rest27 hc
  | 28, _, hc => rest28 hc
  | 29, _, hc => rest29 hc
  | 30, _, hc => rest30 hc
  | 31, _, hc => rest31 hc
  | 32, _, hc => rest32 hc
  | 33, _, hc => rest33 hc
  | 34, _, hc => rest34 hc
  | 35, _, hc => rest35 hc
  | 36, _, hc => rest36 hc
  | 37, _, hc => rest37 hc
  | 38, _, hc => rest38 hc
  | 39, _, hc => rest39 hc
  | 40, _, hc => rest40 hc
  | 41, _, hc => rest41 hc
  | 42, _, hc => rest42 hc
  | 43, _, hc => rest43 hc
  | 44, _, hc => rest44 hc
  | 45, _, hc => rest45 hc
  | 46, _, hc => rest46 hc
  | n + 47, h, _ => absurd h (by omega)
theorem runA2 : ∀ i, i < 47 → ∃ m, endsR m nmId (stC i) (aregion Tryz.prog (envA []) cl0 l2A (s1A.put (some (.x5, .x5)) (vC i)).frame (s1A.put (some (.x5, .x5)) (vC i)).hp) = true
  | 0, _ => ⟨_, rA0⟩
  | 1, _ => ⟨_, rA1⟩
  | 2, _ => ⟨_, rA2⟩
  | 3, _ => ⟨_, rA3⟩
  | 4, _ => ⟨_, rA4⟩
  | 5, _ => ⟨_, rA5⟩
  | 6, _ => ⟨_, rA6⟩
  | 7, _ => ⟨_, rA7⟩
  | 8, _ => ⟨_, rA8⟩
  | 9, _ => ⟨_, rA9⟩
  | 10, _ => ⟨_, rA10⟩
  | 11, _ => ⟨_, rA11⟩
  | 12, _ => ⟨_, rA12⟩
  | 13, _ => ⟨_, rA13⟩
  | 14, _ => ⟨_, rA14⟩
  | 15, _ => ⟨_, rA15⟩
  | 16, _ => ⟨_, rA16⟩
  | 17, _ => ⟨_, rA17⟩
  | 18, _ => ⟨_, rA18⟩
  | 19, _ => ⟨_, rA19⟩
  | 20, _ => ⟨_, rA20⟩
  | 21, _ => ⟨_, rA21⟩
  | 22, _ => ⟨_, rA22⟩
  | 23, _ => ⟨_, rA23⟩
  | 24, _ => ⟨_, rA24⟩
  | 25, _ => ⟨_, rA25⟩
  | 26, _ => ⟨_, rA26⟩
  | 27, _ => ⟨_, rA27⟩
  | 28, _ => ⟨_, rA28⟩
  | 29, _ => ⟨_, rA29⟩
  | 30, _ => ⟨_, rA30⟩
  | 31, _ => ⟨_, rA31⟩
  | 32, _ => ⟨_, rA32⟩
  | 33, _ => ⟨_, rA33⟩
  | 34, _ => ⟨_, rA34⟩
  | 35, _ => ⟨_, rA35⟩
  | 36, _ => ⟨_, rA36⟩
  | 37, _ => ⟨_, rA37⟩
  | 38, _ => ⟨_, rA38⟩
  | 39, _ => ⟨_, rA39⟩
  | 40, _ => ⟨_, rA40⟩
  | 41, _ => ⟨_, rA41⟩
  | 42, _ => ⟨_, rA42⟩
  | 43, _ => ⟨_, rA43⟩
  | 44, _ => ⟨_, rA44⟩
  | 45, _ => ⟨_, rA45⟩
  | 46, _ => ⟨_, rA46⟩
  | n + 47, h => absurd h (by omega)
theorem envR {u v : Value} {z : Nat → Option Obj} {j p s : Int} {d : ByteArray} {lo hi : Int} (h1 : lo ≤ j) (h2 : j ≤ hi) : EnvOk (envA [.rng (.v (nat_lit 1)) lo hi]) (rW u v z j p s d) := envA_ok std fun f hf => by
  cases hf with
  | head => exact ⟨h1, h2⟩
  | tail _ h => cases h
theorem callOk0 : CallOk Tryz.prog (envA []) cl0 := eval_ok tbl_ok mixed _
section
variable {w0 : World} {N : Nat} {u v : Value} {q : CodeRow} {c : Nat}
/-- a round's action -/
theorem actT (hv : v = .pointer (some ⟨c, 0, none⟩)) (hc : w0.heap.size ≤ c) {z : Nat → Option Obj} (hz : CodesZ q c z) {j : Int} : Tri Tryz.prog N wAct (At w0 N (rW u v z j 0 0 ⟨#[]⟩) SH) fun e a w => e = .normal ∧ ∃ i z p s d, i < 47 ∧ condC i p s d ∧ CodesZ q c z ∧ At w0 N (rW u v z j p s d) (stC i) a w := by
  rw [wAct_eq]
  refine Tri.regcall callOk0 env0' runA1 renI (vs := [.c (.gv (.v (nat_lit 8))), .c (.i .i64 (Int.ofNat (nat_lit 1)))]) rfl ?_
  intro φ a w us hat hrel hus
  cases hus with
  | cons h1 t1 =>
    cases t1 with
    | cons h2 t2 =>
      cases t2
      obtain ⟨h1, _⟩ := h1
      have h1 : _ = v := h1
      have h2 : _ = Value.int .i64 1 := h2
      subst h1
      subst h2
      subst hv
      have hcd : CodesAt q w c := At.codes hat hz
      refine (action_any q c 1 (Nat.le_refl _) (by decide) w hcd).mono ?_
      rintro e w' ⟨k, p, s, d, rfl, hk1, hk7, hd, hn, ho, hq⟩
      obtain ⟨i, hi, hci, hvv⟩ := pick (p := p) (s := s) hk1 hk7 hd hn
      obtain ⟨hat2, hz2⟩ := At.drew hat (by kernel_rfl) hz hc ho hq
      have hat3 : At w0 N (rW u (.pointer (some ⟨c, 0, none⟩)) (zOf q c w') j p s d) s1A a w' := At.ren hat2 s1A_fits ⟨fun _ => rfl, fun _ => rfl, fun x h => by simp only [nmH, List.mem_cons, List.not_mem_nil, or_false] at h; subst h; rfl, fun _ h => (nomatch h), fun _ h => (nomatch h), fun _ h => (nomatch h), fun x h => by simp only [nmH, List.mem_cons, List.not_mem_nil, or_false] at h; subst h; rfl, rfl⟩
      obtain ⟨m2, h5⟩ := runA2 i hi
      exact ⟨_, rfl, _, vC i, env0', hat3, fun φ => hvv _ _ _ _ φ, stC i, m2, nmId, _, h5, renI, fun a w h => ⟨rfl, i, _, p, s, d, hi, hci, hz2, h⟩⟩
/-- a round -/
theorem roundT (hv : v = .pointer (some ⟨c, 0, none⟩)) (hc : w0.heap.size ≤ c) (j : Nat) : Tri Tryz.prog N wBody (fun a w => j ≤ 8 ∧ ∃ z, CodesZ q c z ∧ At w0 N (rW u v z j 0 0 ⟨#[]⟩) SH a w) fun e a w => (e = .normal ∧ ∃ k, 8 - k < 8 - j ∧ k ≤ 8 ∧ ∃ z, CodesZ q c z ∧ At w0 N (rW u v z (k : Nat) 0 0 ⟨#[]⟩) SH a w) ∨ (e ≠ .normal ∧ e = .exit 0 ∧ ∃ z, At w0 N (rW u v z j 0 0 ⟨#[]⟩) SH a w) := by
  refine Tri.imp fun hj => Tri.ex fun z => Tri.imp fun hz => ?_
  by_cases h8 : j = 8
  · have h1 : (Int.ofNat 8) ≤ (j : Int) := by rw [h8]; exact Int.le_refl _
    have h2 : (j : Int) ≤ Int.ofNat 8 := by rw [h8]; exact Int.le_refl _
    exact (Tri.run (codeF _ _) (envR h1 h2) run8 renH).post fun e a w h => .inr ⟨by rw [h.1]; exact (fun h => nomatch h), h.1, _, h.2⟩
  · rw [wBody_eq]
    have h1 : (Int.ofNat 0) ≤ (j : Int) := Int.ofNat_le.2 (Nat.zero_le j)
    have h2 : (j : Int) ≤ Int.ofNat 7 := Int.ofNat_le.2 (by omega)
    refine Tri.seq (Mid := At w0 N (rW u v z j 0 0 ⟨#[]⟩) SH) ((Tri.run (codeF _ _) (envR h1 h2) runC renH).post fun e a w h => .inl h) ?_
    refine Tri.seq (Mid := fun a w => ∃ z, CodesZ q c z ∧ At w0 N (rW u v z j 0 0 ⟨#[]⟩) SH a w) ?_ ?_
    · rw [wB1_eq]
      refine Tri.block (Post := fun e a w => (e = .normal ∧ ∃ z, CodesZ q c z ∧ At w0 N (rW u v z j 0 0 ⟨#[]⟩) SH a w) ∨ (e ≠ .normal ∧ False)) ?_ |>.post fun e a w h => h.imp id fun h => h.2.elim
      refine (Tri.seq (Post := fun e a w => (e = .normal ∨ e = .exit 1) ∧ ∃ z, CodesZ q c z ∧ At w0 N (rW u v z j 0 0 ⟨#[]⟩) SH a w) (Mid := fun a w => ∃ i z p s d, i < 47 ∧ condC i p s d ∧ CodesZ q c z ∧ At w0 N (rW u v z j p s d) (stC i) a w) ((actT hv hc hz).post fun e a w h => .inl h) ?_).post fun e a w h => .inl ⟨h.1, .inl ⟨rfl, h.2⟩⟩
      refine Tri.ex fun i => Tri.ex fun z => Tri.ex fun p => Tri.ex fun s => Tri.ex fun d => Tri.imp fun hi => Tri.imp fun hci => Tri.imp fun hz => ?_
      exact (rest i hi hci).post fun e a w h => ⟨h.1, z, hz, h.2⟩
    · refine Tri.ex fun z => Tri.imp fun hz => ?_
      exact (Tri.run (codeF _ _) env0' runS (renS (by omega) (by omega))).post fun e a w h => .inl ⟨h.1, j + 1, by omega, by omega, z, hz, h.2⟩
/-- all rounds -/
theorem loopT (hv : v = .pointer (some ⟨c, 0, none⟩)) (hc : w0.heap.size ≤ c) : Tri Tryz.prog N wBlk (fun a w => ∃ z, CodesZ q c z ∧ At w0 N (rW u v z 0 0 0 ⟨#[]⟩) SH a w) fun e a w => e = .normal ∧ ∃ z, ∃ j : Int, At w0 N (rW u v z j 0 0 ⟨#[]⟩) SH a w := by
  rw [wBlk_eq]
  refine Tri.block ?_
  refine ((Tri.loop (Post := fun e a w => e = .exit 0 ∧ ∃ z, ∃ j : Int, At w0 N (rW u v z j 0 0 ⟨#[]⟩) SH a w) (fun j => 8 - j) (fun j a w => j ≤ 8 ∧ ∃ z, CodesZ q c z ∧ At w0 N (rW u v z (j : Nat) 0 0 ⟨#[]⟩) SH a w) fun j => (roundT hv hc j).post fun e a w h => ?_).pre fun a w h => ⟨0, by omega, h⟩).post fun e a w h => .inl ⟨.inr h.1, rfl, h.2⟩
  rcases h with ⟨h1, k, h2, h3, h4⟩ | ⟨h1, h2, z, h3⟩
  · exact .inl ⟨h1, k, h2, h3, h4⟩
  · exact .inr ⟨h1, h2, z, _, h3⟩
end
/-- the law -/
theorem waits_walk (x : Option Addr) (len cap : Nat) {w : World} (hb : BytesIn w x len) (hl : len ≤ cap) (hm : cap ≤ maxLen) : Calls Tryz.prog 5 #[.slice x len cap] w fun e w' => e = .returned (.bool true) ∧ Below w.heap.size w w' := by
  refine law_tri (us := [.slice x len cap]) (args := [.c (.gv (.v (nat_lit 9)))]) (s0 := s0) (ac := bodyW) (res := resW) (ρ := rW (.slice x len cap) (.bool false) (fun _ => none) 0 0 0 ⟨#[]⟩) Tryz.func5 (by kernel_rfl) ⟨_, rfl, by kernel_rfl⟩ (by kernel_rfl) (.cons ⟨rfl, rfl⟩ .nil) w (fun b y h => nomatch h) ?_
  refine Tri.pre_run (codeF _ _) env0' cut1 runA renG ?_
  rw [wN_eq]
  refine Tri.seq (Mid := fun a w' => ∃ c q z, CodesZ q c z ∧ w.heap.size ≤ c ∧ At w Tryz.f5.ntmps (rW (.slice x len cap) (.pointer (some ⟨c, 0, none⟩)) z 0 0 0 ⟨#[]⟩) s2N a w') ?_ ?_
  · rw [wNew_eq]
    refine Tri.regcall callOk0 env0' runN1 renG (vs := [.c (.gv (.v (nat_lit 9))), .c (.i .i64 (Int.ofNat (nat_lit 100)))]) rfl ?_
    intro φ a w1 us hat hrel hus
    cases hus with
    | cons h1 t1 =>
      cases t1 with
      | cons h2 t2 =>
        cases t2
        obtain ⟨h1, _⟩ := h1
        have h1 : _ = Value.slice x len cap := h1
        have h2 : _ = Value.int .i64 100 := h2
        subst h1
        subst h2
        have hold : ∀ b, b < w.heap.size → w1.heap[b]? = w.heap[b]? := by obtain ⟨φ, _, _, h3, _⟩ := hat; exact h3.old
        refine (new_any2 x len cap 100 w1 (hb.at hold) hl (by decide) (by decide) hm).mono ?_
        rintro e w' ⟨c, q, rfl, hc, hext, hq, hqa, hql⟩
        obtain ⟨hat2, hz, hc2⟩ := At.made hat (by kernel_rfl) (fun _ => rfl) hb hc hext hq hqa hql
        have hat3 : At w Tryz.f5.ntmps (rW (.slice x len cap) (.pointer (some ⟨c, 0, none⟩)) (zOf q c w') 0 0 0 ⟨#[]⟩) s1N a w' := At.ren hat2 s1N_fits ⟨fun _ => rfl, fun _ => rfl, fun _ h => (nomatch h), fun _ h => (nomatch h), fun _ h => (nomatch h), fun _ h => (nomatch h), fun x h => by simp only [List.mem_cons, List.not_mem_nil, or_false] at h; subst h; rfl, rfl⟩
        exact ⟨_, rfl, _, .c (.gv (.v (nat_lit 8))), env0', hat3, fun φ => ⟨rfl, rfl⟩, s2N, [], nmG, _, runN2, renG, fun a w h => .inl ⟨rfl, c, q, _, hz, hc2, h⟩⟩
  · refine Tri.ex fun c => Tri.ex fun q => Tri.ex fun z => Tri.imp fun hz => Tri.imp fun hc => ?_
    refine Tri.pre_run (codeF _ _) env0' cut2 runI renG ?_
    rw [wL_eq]
    refine Tri.seq (Mid := fun a w' => ∃ z, ∃ j : Int, At w Tryz.f5.ntmps (rW (.slice x len cap) (.pointer (some ⟨c, 0, none⟩)) z j 0 0 ⟨#[]⟩) SH a w') ?_ ?_
    · rw [wLs_eq]
      refine Tri.seq (Mid := fun a w' => ∃ z, CodesZ q c z ∧ At w Tryz.f5.ntmps (rW (.slice x len cap) (.pointer (some ⟨c, 0, none⟩)) z 0 0 0 ⟨#[]⟩) SH a w') ?_ ((loopT rfl hc).post fun e a w h => .inl h)
      exact (Tri.run (codeF _ _) env0' runH ren0).post fun e a w h => .inl ⟨h.1, z, hz, h.2⟩
    · refine Tri.ex fun z => Tri.ex fun j => ?_
      refine (Tri.run (codeF _ _) env0' runE (ρ' := rW (.slice x len cap) (.pointer (some ⟨c, 0, none⟩)) z j 0 0 ⟨#[]⟩) ⟨fun _ => rfl, fun _ => rfl, fun _ h => (nomatch h), fun _ h => (nomatch h), fun _ h => (nomatch h), fun _ h => (nomatch h), fun _ h => (nomatch h), rfl⟩).post fun e a w h => ⟨h.1, _, _, ?_, h.2⟩
      kernel_rfl
end Go.Proofs.YtpecbnkhppglkaaGreat
