/-
  RollbackCells: the call, whatever the two slices of bytes hold.
-/
import Derived.Test.YtnofmmceafkkoaaGreatEcX
import Derived.ProofKit
import Derived.OpenShut
set_option linter.unusedSimpArgs false
set_option linter.unusedVariables false
namespace Go.Proofs.YtnofmmceafkkoaaGreat
open Go.RowKit Go.ChangeShapes Go.WideShapes Go.ChangeAt
def IsRow (k:IntKind) (w:World) (a:Option Addr) (len cap:Nat) (zs:List Int):Prop:=
 (a=none∧len=0∧cap=0∧zs=[])∨
 ∃ x,a=some x∧len≤cap∧cap≤maxLen∧zs.length=cap∧(∀ i,i<zs.length→w.cell? (x.add i)=some (.int k (zs.getD i 0)))∧∀ n∈zs,(Lit.int k n).wf=true
def rowsOf (len:Nat) (zs:List Int):List (List DV):=(zs.take len).map fun n=>[DV.i n]
theorem frozen_all {w:World} {x:Option Addr} {len cap:Nat} {zs:List Int} (hz:IsRow .u8 w x len cap zs):SlD (fun b=>w.heap[b]?) shB (rowsOf len zs) (.slice x len cap):=by
 unfold rowsOf
 rcases hz with ⟨rfl,rfl,rfl,rfl⟩ | ⟨a,rfl,hl,hm,hlen,hc,hw⟩
 ·exact ⟨none,0,rfl,by simp, .inl rfl⟩
 ·by_cases h0:len=0
  ·subst h0
   exact ⟨_,_,rfl,by simp, .inl rfl⟩
  ·obtain ⟨b,off,rfl,hi⟩:=ints_at hc (by omega)
   have h1:=hi 0 (by omega)
   have hb:∃ arr T fz,w.heap[b]? =some (.cells arr T fz):=by
    unfold World.cell? at h1
    split at h1
    ·rename_i arr T fz hb;exact ⟨_,_,_,hb⟩
    ·cases h1
   obtain ⟨arr,T,fz,hb⟩:=hb
   refine ⟨some ⟨b,off,none⟩,cap,by simp;omega,by simp;omega, .inr ⟨b,off,arr,T,fz,rfl,hb,fun i row hr=> ?_⟩⟩
   have hil:i<zs.length∧i<len:=by
    have:=(List.getElem?_eq_some_iff.1 hr).1
    simp at this;omega
   have hrow:row=[DV.i (zs.getD i 0)]:=by
    simp [hil.1,hil.2] at hr
    rw [← hr];simp [hil.1]
   have hcell:=hi i hil.1
   rw [cell_of_row w b _ arr T fz hb] at hcell
   have hlt:=(Array.getElem?_eq_some_iff.1 hcell).1
   have hvs: (arr.toList.drop (off+i*shB.len)).take shB.len=[Value.int .u8 (zs.getD i 0)]:=by
    show (arr.toList.drop (off+i*1)).take 1=_
    rw [Nat.mul_one,List.drop_eq_getElem_cons (by simpa using hlt),List.take_succ_cons,List.take_zero]
    congr 1
    have:=(Array.getElem?_eq_some_iff.1 hcell).2
    simpa using this
   rw [hrow,hvs]
   exact ⟨_,_,_,rfl,rfl,rfl,rfl⟩
theorem byt_of {w:World} {x:Option Addr} {len cap:Nat} {zs:List Int} (hz:IsRow .u8 w x len cap zs):Byt (rowsOf len zs):=by
 intro i row hr
 unfold rowsOf at hr
 rw [List.getElem?_map] at hr
 cases hq: (zs.take len)[i]? with
 |none=>rw [hq] at hr;cases hr
 |some n=>
  rw [hq] at hr
  cases hr
  have hmem:n∈zs:=List.mem_of_mem_take (List.mem_of_getElem? hq)
  rcases hz with ⟨_,_,_,rfl⟩ | ⟨_,_,_,_,_,_,hw⟩
  ·cases hmem
  ·exact ⟨n,rfl,(bounds_u8 (hw _ hmem)).1,(bounds_u8 (hw _ hmem)).2⟩
theorem len_of {w:World} {x:Option Addr} {len cap:Nat} {zs:List Int} (hz:IsRow .u8 w x len cap zs): (rowsOf len zs).length≤9223372036854775807:=by
 unfold rowsOf
 rcases hz with ⟨_,rfl,_,_⟩ | ⟨_,_,h1,h2,h3,_⟩
 ·simp
 ·have:maxLen≤9223372036854775807:=by unfold maxLen;omega
  simp;omega
def bS (d e:List (List DV)):Nat→MV:=fun n=>if n=50 then { d:=d } else if n=51 then { d:=e } else {}
theorem rbcells_walk (a0:Option Addr) (len0 cap0:Nat) (a1:Option Addr) (len1 cap1:Nat) {z0 z1:List Int} {w:World} (h0:IsRow .u8 w a0 len0 cap0 z0) (h1:IsRow .u8 w a1 len1 cap1 z1):
  Calls Tryz.prog 6 #[.slice a0 len0 cap0, .slice a1 len1 cap1] w fun e w'=>e= .returned (.bool true)∧Below w.heap.size w w':=by
 refine law_tri (us:=[.slice a0 len0 cap0, .slice a1 len1 cap1]) (args:=[.c (.ds shB (.v 50)), .c (.ds shB (.v 51))]) (s0:=s0L) (ac:=lwBody) (res:=lwRes) (ρ:=vb (bS (rowsOf len0 z0) (rowsOf len1 z1)) (fun _=> .bool false) fun b=>w.heap[b]?) Tryz.func6 (by kernel_rfl) ⟨_,rfl,rfl⟩ rfl (.cons (frozen_all h0) (.cons (frozen_all h1) .nil)) w (fun b x h=>h) ?_
 exact law_all (byt_of h0) (byt_of h1) rfl rfl (len_of h0) (len_of h1)
end Go.Proofs.YtnofmmceafkkoaaGreat
