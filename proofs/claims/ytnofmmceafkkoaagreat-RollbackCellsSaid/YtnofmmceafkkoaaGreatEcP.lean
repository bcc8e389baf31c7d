/-
  RollbackCells: what holds at the states, in plain Lean: logs that grow, lists of what is pending, cells and the writes that made them.
-/
import Derived.Test.YtnofmmceafkkoaaGreatEcA
import Derived.Test.YtnofmmceafkkoaaGreatTriQ
set_option linter.unusedVariables false
set_option linter.unusedSimpArgs false
namespace Go.Proofs.YtnofmmceafkkoaaGreat
open Go.RowKit
theorem subC_ok {ρ:Vn}:∀ {L:List (AC×AC)},(∀ x∈L,∀ φ v,VC ρ φ x.1 v→VC ρ φ x.2 v)→∀ φ c v,VC ρ φ c v→VC ρ φ (subC L c) v
 | [],_,φ,c,v,hv=>hv
 |x::L,h,φ,c,v,hv=>by
  show VC ρ φ (bif decide (x.1=c) then x.2 else subC L c) v
  cases hd:decide (x.1=c) with
  |true=>
   have:=of_decide_eq_true hd
   subst this
   exact h x List.mem_cons_self φ v hv
  |false=>exact subC_ok (fun y hy=>h y (List.mem_cons_of_mem _ hy)) φ c v hv
def iot (n:Nat):List (List DV):=nsD ((List.range n).map fun i=>((i+1:Nat):Int))
theorem iot_len (n:Nat): (iot n).length=n:=by simp [iot,nsD]
theorem iot_succ (n:Nat):iot (n+1)=iot n++[[DV.i ((n+1:Nat):Int)]]:=by
 unfold iot nsD
 rw [List.range_succ,List.map_append,List.map_append];rfl
theorem iot_get {n i:Nat} (h:i<n): (iot n)[i]? =some [DV.i ((i+1:Nat):Int)]:=by
 unfold iot nsD
 rw [List.getElem?_map,List.getElem?_map,List.getElem?_range h];rfl
theorem iot_del (n:Nat): (iot (n+1)).eraseIdx n=iot n:=by
 rw [iot_succ,List.eraseIdx_append_of_length_le (by rw [iot_len];exact Nat.le_refl _),iot_len,Nat.sub_self]
 exact List.append_nil _
theorem iot_asc {n:Nat} {m:Int} (h1: (n:Int)≤m) (h2:m≤4000):Asc (iot n) m:=by
 refine ⟨by rw [iot_len];omega,h2,_,rfl, ?_,fun x hx=> ?_⟩
 ·rw [List.pairwise_map]
  exact List.pairwise_lt_range.imp fun h=>by omega
 ·obtain ⟨i,hi,rfl⟩:=List.mem_map.1 hx
  have:=List.mem_range.1 hi
  omega
theorem JV.push {d:List (List DV)} {row:List DV} (h:JV d) (hl:d.length<4000) (hr:EnOk d.length row):JV (d++[row]):=by
 refine ⟨by rw [List.length_append];simp;omega,fun i r hi=> ?_⟩
 by_cases hlt:i<d.length
 ·rw [List.getElem?_append_left hlt] at hi;exact h.2 i r hi
 ·rw [List.getElem?_append_right (by omega)] at hi
  have:i=d.length:=by
   have:=(List.getElem?_eq_some_iff.1 hi).1
   simp at this;omega
  subst this
  rw [Nat.sub_self] at hi
  cases hi
  exact hr
structure KI (ns k p:Nat) (b:Nat→MV):Prop where
 y:JV (b 0).d
 n: (b 0).d.length≤900
 la: (b 2).i=(b 0).d.length
 pl:k≠0→(b 3).i=(b 0).d.length
 du: (b 4).i=0
 q: (b 1).d=iot p
 pn:p≤(b 0).d.length
 k0:k=0↔(b 0).d.length=0
 c:k≠0→∀ i,i<ns→VCell (b (20+2*i)).b (b (21+2*i)).s
section
variable {g : Nm → Value} {z : Nat → Option Obj} {b : Nat → MV} {k p : Nat}
theorem KI.asc {ns:Nat} (h:KI ns k p b):Asc (b 1).d (b 2).i:=by
 rw [h.q,h.la]
 exact iot_asc (by have:=h.pn;omega) (by have:=h.n;omega)
theorem fb4_ok (h:KI 4 k p b):∀ f∈fb4 k,f.holds QR (vb b g z):=by
 have hn:=h.n
 have hl:=h.la
 have hq: (((b 1).d.length:Nat):Int)=p:=by rw [h.q,iot_len]
 have hp:=h.pn
 have hd:=h.du
 cases k with
 |zero=>
  have h0:=h.k0.1 rfl
  exact facts_cons ⟨(by show (0:Int)≤(((b 0).d.length:Nat):Int);omega),(by show (((b 0).d.length:Nat):Int)≤0;omega)⟩ (facts_cons ⟨(by show (0:Int)≤(b 2).i;omega),(by show (b 2).i≤0;omega)⟩ (facts_cons ⟨(by show (0:Int)≤(b 4).i;omega),(by show (b 4).i≤0;omega)⟩
   (facts_cons ⟨(by show (0:Int)≤(((b 1).d.length:Nat):Int);omega),(by show (((b 1).d.length:Nat):Int)≤0;omega)⟩ (facts_cons ⟨(by show (0:Int)≤(b 2).i-(((b 0).d.length:Nat):Int);omega),(by show (b 2).i-(((b 0).d.length:Nat):Int)≤0;omega)⟩ (facts_cons (show JV (b 0).d from h.y) (facts_cons (show Asc (b 1).d (b 2).i from h.asc) facts_nil))))))
 |succ k=>
  have h0: (b 0).d.length≠0:=fun e=>absurd (h.k0.2 e) (by omega)
  have h3:=h.pl (by omega)
  have hc:=h.c (by omega)
  exact facts_cons ⟨(by show (1:Int)≤(((b 0).d.length:Nat):Int);omega),(by show (((b 0).d.length:Nat):Int)≤900;omega)⟩ (facts_cons ⟨(by show (1:Int)≤(b 2).i;omega),(by show (b 2).i≤900;omega)⟩ (facts_cons ⟨(by show (1:Int)≤(b 3).i;omega),(by show (b 3).i≤900;omega)⟩ (facts_cons ⟨(by show (0:Int)≤(b 4).i;omega),(by show (b 4).i≤0;omega)⟩
   (facts_cons ⟨(by show (0:Int)≤(((b 1).d.length:Nat):Int);omega),(by show (((b 1).d.length:Nat):Int)≤900;omega)⟩ (facts_cons ⟨(by show (0:Int)≤(b 2).i-(((b 0).d.length:Nat):Int);omega),(by show (b 2).i-(((b 0).d.length:Nat):Int)≤0;omega)⟩ (facts_cons ⟨(by show (0:Int)≤(b 3).i-(((b 0).d.length:Nat):Int);omega),(by show (b 3).i-(((b 0).d.length:Nat):Int)≤0;omega)⟩
   (facts_cons ⟨(by show (-900:Int)≤(b 4).i-(((b 0).d.length:Nat):Int);omega),(by show (b 4).i-(((b 0).d.length:Nat):Int)≤-1;omega)⟩ (facts_cons ⟨(by show (-900:Int)≤(((b 1).d.length:Nat):Int)-(((b 0).d.length:Nat):Int);omega),(by show (((b 1).d.length:Nat):Int)-(((b 0).d.length:Nat):Int)≤0;omega)⟩
   (facts_cons (show JV (b 0).d from h.y) (facts_cons (show Asc (b 1).d (b 2).i from h.asc) (facts_cons (hc 0 (by decide)) (facts_cons (hc 1 (by decide)) (facts_cons (hc 2 (by decide)) (facts_cons (hc 3 (by decide)) facts_nil))))))))))))))
end
theorem en_ok {n:Nat} {tx:Int} {kind ptx pp ref:Int} {s:Nat} {bs az:Bool} {bd ad:ByteArray} (ht:tx=1∨tx=2) (hs:s<16) (hk:kind=1∧ref=0∨kind=2∧1≤ref∧ref≤ptx) (h1:0≤ptx) (h2:ptx≤n) (h3:0≤pp) (h4:pp≤n) (h5:ref≤n) (hb:VCell bs bd) (ha:VCell az ad):
  EnOk n (enR ((n:Int)+1) kind tx ptx pp ref 0 s bs bd az ad):=by
 refine ⟨kind,tx,ptx,pp,ref,0,s,bs,bd,az,ad,rfl,by omega,by omega,h1,h2,h3,h4,by omega,h5, ?_⟩
 have hc:ChgOk 0 s bs bd az ad:=⟨by decide,by decide,by omega,by omega,hb,ha⟩
 rcases hk with ⟨rfl,rfl⟩ | ⟨rfl,h6,h7⟩
 ·exact .inl ⟨rfl,rfl,hc⟩
 ·exact .inr (.inl ⟨rfl,h6,h7,hc⟩)
theorem KI.next {ns k p s:Nat} {b b':Nat→MV} (h:KI ns k p b) (hs:s<6) (hn: (b 0).d.length<900) {ptx pp:Int} {bs az:Bool} {bd ad:ByteArray} (hptx:ptx=(b 2).i) (hpp:0≤pp∧pp≤(b 0).d.length) (vb:VCell bs bd) (va:VCell az ad)
  (hy: (b' 0).d=(b 0).d++[enR (((b 0).d.length:Int)+1) 1 1 ptx pp 0 0 s bs bd az ad]) (hpn:p=(b 0).d.length) (hq: (b' 1).d=(b 1).d++[[DV.i (((b 0).d.length:Int)+1)]]) (h2: (b' 2).i=((b 0).d.length:Int)+1) (h3: (b' 3).i=((b 0).d.length:Int)+1) (h4: (b' 4).i=0)
  (hc:∀ i,i<ns→VCell (b' (20+2*i)).b (b' (21+2*i)).s):KI ns (k|||2 ^ s) (p+1) b':=by
 have hl: (b' 0).d.length=(b 0).d.length+1:=by rw [hy];simp
 have hk:k|||2 ^ s≠0:=by
  intro e
  have: (k|||2 ^ s).testBit s=false:=by rw [e];simp
  rw [Nat.testBit_or,Nat.testBit_two_pow_self] at this
  simp at this
 have hla:=h.la
 refine ⟨?_,by omega,by rw [h2,hl];rfl,fun _=>by rw [h3,hl];rfl,h4, ?_,by omega,⟨fun e=>absurd e hk,fun e=>by omega⟩,fun _=>hc⟩
 ·rw [hy]
  exact h.y.push (by omega) (en_ok (.inl rfl) (by omega) (.inl ⟨rfl,rfl⟩) (by omega) (by omega) hpp.1 hpp.2 (by omega) vb va)
 ·rw [hq,h.q,iot_succ,← hpn];rfl
def Byt (d:List (List DV)):Prop:=∀ (i:Nat) row,d[i]? =some row→∃ x:Int,row=[.i x]∧0≤x∧x≤255
theorem tmod_cases4 {x:Int} (h0:0≤x):x.tmod 4=0∨x.tmod 4=1∨x.tmod 4=2∨x.tmod 4=3:=by
 obtain ⟨m,rfl⟩:=Int.eq_ofNat_of_zero_le h0
 have:Int.tmod (m:Int) 4=((m % 4:Nat):Int):=rfl
 omega
theorem tmod26 {x:Int} (h0:0≤x):0≤x.tmod 26∧x.tmod 26≤25:=by
 obtain ⟨m,rfl⟩:=Int.eq_ofNat_of_zero_le h0
 have:Int.tmod (m:Int) 26=((m % 26:Nat):Int):=rfl
 omega
theorem size_one (x:Int): (strOfNums [x]).size=1:=by
 rw [← size_list,strOfNums_data];rfl
theorem v1_ok (x:Int):VCell true (strOfNums [x]):=⟨by rw [size_one];decide,fun h=>(nomatch h)⟩
theorem v0_ok:VCell false ⟨#[]⟩:=⟨by decide,fun _=>rfl⟩
abbrev Cel:=Bool×ByteArray
def updC (c:Nat→Cel) (s:Nat) (x:Cel) (i:Nat):Cel:=if i=s then x else c i
abbrev Wr:=Nat×Cel×Cel
inductive Ch (w:Nat→Cel):List Wr→(Nat→Cel)→Prop where
 |nil:Ch w [] w
 |snoc {H:List Wr} {c:Nat→Cel} (h:Ch w H c) (s:Nat) (x:Cel):Ch w (H++[(s,c s,x)]) (updC c s x)
theorem Ch.last {w:Nat→Cel} {H:List Wr} {x:Wr} {c:Nat→Cel} (h:Ch w (H++[x]) c):∃ c0,Ch w H c0∧x.2.1=c0 x.1∧c=updC c0 x.1 x.2.2:=by
 generalize hH:H++[x]=H' at h
 cases h with
 |nil=>simp at hH
 |snoc h s y=>
  rename_i H2 c2
  have:=List.append_inj' hH rfl
  obtain ⟨rfl,e⟩:=this
  cases e
  exact ⟨c2,h,rfl,rfl⟩
def Rws (d:List (List DV)) (n0:Nat) (H:List Wr):Prop:=∀ (j:Nat) x,H[j]? =some x→∃ ptx pp:Int,d[n0+j]? =some (enR (((n0+j:Nat):Int)+1) 1 1 ptx pp 0 0 x.1 x.2.1.1 x.2.1.2 x.2.2.1 x.2.2.2)
theorem Rws.push {d:List (List DV)} {n0:Nat} {H:List Wr} (h:Rws d n0 H) (hl:n0+H.length≤d.length) (row:List DV):Rws (d++[row]) n0 H:=fun j x hx=>by
 obtain ⟨ptx,pp,e⟩:=h j x hx
 have hj:=(List.getElem?_eq_some_iff.1 hx).1
 exact ⟨ptx,pp,by rw [List.getElem?_append_left (by omega)];exact e⟩
theorem Rws.snoc {d:List (List DV)} {n0:Nat} {H:List Wr} (h:Rws d n0 H) (hl:n0+H.length=d.length) (x:Wr) (ptx pp:Int):Rws (d++[enR ((d.length:Int)+1) 1 1 ptx pp 0 0 x.1 x.2.1.1 x.2.1.2 x.2.2.1 x.2.2.2]) n0 (H++[x]):=fun j y hy=>by
 by_cases hj:j<H.length
 ·rw [List.getElem?_append_left hj] at hy
  exact h.push (by omega) _ j y hy
 ·have hj2:j=H.length:=by
   have:=(List.getElem?_eq_some_iff.1 hy).1
   simp at this;omega
  subst hj2
  rw [List.getElem?_append_right (Nat.le_refl _),Nat.sub_self] at hy
  cases hy
  refine ⟨ptx,pp, ?_⟩
  rw [hl,List.getElem?_append_right (Nat.le_refl _),Nat.sub_self];rfl
theorem Rws.take {d:List (List DV)} {n0:Nat} {H:List Wr} {x:Wr} (h:Rws d n0 (H++[x])):Rws d n0 H:=fun j y hy=>h j y (by rw [List.getElem?_append_left (List.getElem?_eq_some_iff.1 hy).1];exact hy)
def pc (k:Nat) (b:Nat→MV) (i:Nat):Cel:=if k=0 then (false,⟨#[]⟩) else ((b (20+2*i)).b,(b (21+2*i)).s)
def cE:Nat→Cel:=fun _=>(false,⟨#[]⟩)
structure JW (d50:List (List DV)) (k:Nat) (H:List Wr) (b:Nat→MV):Prop where
 f: (b 50).d=d50
 ln: (b 8).i=d50.length
 i0:0≤(b 7).i
 i1: (b 7).i≤d50.length
 n: ((b 0).d.length:Int)=(b 7).i
 hl:H.length=(b 0).d.length
 k16:k<16
 kb:KI 4 k (b 0).d.length b
 rw:Rws (b 0).d 0 H
 ch:∃ c,Ch cE H c∧∀ i,i<4→pc k b i=c i
 sl:∀ x∈H,x.1<4∧k.testBit x.1=true
 al:∀ s,s<4→k.testBit s=true→∃ x∈H,x.1=s
theorem or_pow_lt {k s n:Nat} (hk:k<2 ^ n) (hs:s<n):k|||2 ^ s<2 ^ n:=Nat.or_lt_two_pow hk (Nat.pow_lt_pow_right (by decide) hs)
theorem bit_or {k s t:Nat} (h:k.testBit t=true): (k|||2 ^ s).testBit t=true:=by rw [Nat.testBit_or,h];rfl
theorem bit_self {k s:Nat}: (k|||2 ^ s).testBit s=true:=by rw [Nat.testBit_or,Nat.testBit_two_pow_self,Bool.or_true]
theorem or_ne {k s:Nat}:k|||2 ^ s≠0:=fun e=>by have:=bit_self (k:=k) (s:=s);rw [e] at this;simp at this
theorem JW.next {d50:List (List DV)} {k s:Nat} {H:List Wr} {b b':Nat→MV} {az:Bool} {ad:ByteArray} (h:JW d50 k H b) (hlt: (b 7).i<d50.length) (hs:s<4) {ptx pp:Int}
  (hy: (b' 0).d=(b 0).d++[enR (((b 0).d.length:Int)+1) 1 1 ptx pp 0 0 s (pc k b s).1 (pc k b s).2 az ad]) (hk:KI 4 (k|||2 ^ s) ((b 0).d.length+1) b') (h50: (b' 50).d=(b 50).d) (h8: (b' 8).i=(b 8).i) (h7: (b' 7).i=(b 7).i+1)
  (hc:∀ i,i<4→pc (k|||2 ^ s) b' i=updC (pc k b) s (az,ad) i):JW d50 (k|||2 ^ s) (H++[(s,pc k b s,(az,ad))]) b':=by
 have h0:=h.i0
 have hn:=h.n
 have hl:=h.hl
 obtain ⟨c,c1,c2⟩:=h.ch
 have e1: (H++[(s,pc k b s,(az,ad))]).length=H.length+1:=by simp
 have e2: (b' 0).d.length=(b 0).d.length+1:=by rw [hy];simp
 refine ⟨by rw [h50,h.f],by rw [h8,h.ln],by omega,by omega,by rw [e2,h7];omega,by rw [e1,e2,hl],or_pow_lt (n:=4) h.k16 hs,by rw [e2];exact hk, ?_, ?_, ?_, ?_⟩
 ·rw [hy]
  exact h.rw.snoc (by omega) (s,pc k b s,(az,ad)) ptx pp
 ·refine ⟨updC c s (az,ad), ?_,fun i hi=> ?_⟩
  ·rw [c2 s hs];exact c1.snoc s _
  ·rw [hc i hi]
   unfold updC
   split
   ·rfl
   ·exact c2 i hi
 ·intro x hx
  rcases List.mem_append.1 hx with hx|hx
  ·exact ⟨(h.sl x hx).1,bit_or (h.sl x hx).2⟩
  ·rw [List.mem_singleton.1 hx];exact ⟨hs,bit_self⟩
 ·intro t ht hb
  by_cases e:t=s
  ·exact ⟨_,List.mem_append_right _ List.mem_cons_self,e.symm⟩
  ·have:k.testBit t=true:=by
    rw [Nat.testBit_or,Nat.testBit_two_pow] at hb
    have e3:decide (s=t)=false:=decide_eq_false fun q=>e q.symm
    rwa [e3,Bool.or_false] at hb
   obtain ⟨x,hx,hx2⟩:=h.al t ht this
   exact ⟨x,List.mem_append_left _ hx,hx2⟩
structure KSet (k:Nat) (H:List Wr):Prop where
 lt:k<16
 sl:∀ x∈H,x.1<4∧k.testBit x.1=true
 al:∀ s,s<4→k.testBit s=true→∃ x∈H,x.1=s
theorem KSet.nil {k:Nat} (h:KSet k []):k=0:=by
 have h0:∀ s,k.testBit s=false:=fun s=>by
  by_cases hs:s<4
  ·cases hb:k.testBit s with
   |false=>rfl
   |true=>obtain ⟨x,hx,_⟩:=h.al s hs hb;exact nomatch hx
  ·exact Nat.testBit_lt_two_pow (Nat.lt_of_lt_of_le h.lt (Nat.pow_le_pow_right (n:=2) (by decide) (show 4≤s by omega)))
 exact Nat.eq_of_testBit_eq fun s=>by rw [h0 s,Nat.zero_testBit]
theorem KSet.ne {k:Nat} {H:List Wr} {x:Wr} (h:KSet k (H++[x])):k≠0:=fun e=>by
 have:=(h.sl x (by simp)).2
 rw [e,Nat.zero_testBit] at this;cases this
def abR (n:Nat) (kind tx ptx:Int):List DV:=enR ((n:Int)+1) kind tx ptx 0 0 0 0 false ⟨#[]⟩ false ⟨#[]⟩
theorem ab_ok {n:Nat} {kind tx ptx:Int} (ht:tx=1∨tx=2) (hk:kind=3∨kind=4∨kind=5) (h1:1≤ptx) (h2:ptx≤n):EnOk n (abR n kind tx ptx):=
 ⟨kind,tx,ptx,0,0,0,0,false,⟨#[]⟩,false,⟨#[]⟩,rfl,by omega,by omega,by omega,h2,by decide,by omega,by decide,by omega, .inr (.inr ⟨by omega,h1,rfl,rfl,rfl,rfl,rfl,rfl,rfl,rfl⟩)⟩
theorem Rws.push' {d:List (List DV)} {n0:Nat} {H:List Wr} (h:Rws d n0 H) (row:List DV):Rws (d++[row]) n0 H:=fun j x hx=>by
 obtain ⟨ptx,pp,e⟩:=h j x hx
 have:=(List.getElem?_eq_some_iff.1 e).1
 exact ⟨ptx,pp,by rw [List.getElem?_append_left this];exact e⟩
def pcl (b:Nat→MV) (i:Nat):Cel:=((b (20+2*i)).b,(b (21+2*i)).s)
def mineB:ByteArray:=⟨#[109,105,110,101]⟩
theorem mine_ok:VCell true mineB:=⟨by decide,fun h=>(nomatch h)⟩
abbrev Pnd:=List (Nat×Wr)
def wrs (L:Pnd):List Wr:=L.map (·.2)
def nsL (L:Pnd):List Int:=L.map fun x=>(x.1:Int)
def qL (L:Pnd):List (List DV):=nsD (nsL L)
theorem wrs_app (A B:Pnd):wrs (A++B)=wrs A++wrs B:=List.map_append
theorem nsL_app (A B:Pnd):nsL (A++B)=nsL A++nsL B:=List.map_append
theorem qL_len (L:Pnd): (qL L).length=L.length:=by simp [qL,nsD,nsL]
theorem qL_get {A B:Pnd} {x:Nat×Wr}: (qL (A++x::B))[A.length]? =some [DV.i (x.1:Int)]:=by
 unfold qL nsD nsL
 rw [List.getElem?_map,List.getElem?_map,List.getElem?_append_right (Nat.le_refl _),Nat.sub_self];rfl
theorem qL_del {A B:Pnd} {x:Nat×Wr}: (qL (A++x::B)).eraseIdx A.length=qL (A++B):=by
 unfold qL nsD nsL
 rw [List.map_append,List.map_append,List.eraseIdx_append_of_length_le (by simp),List.map_append,List.map_append]
 simp
theorem last_of {p:Nat×Wr→Prop} [DecidablePred p]:∀ {L:Pnd},(∃ x∈L,p x)→∃ A x B,L=A++x::B∧p x∧∀ y∈B,¬ p y
 | [],⟨x,hx,_⟩=>nomatch hx
 |y::T,h=>by
  by_cases ht:∃ x∈T,p x
  ·obtain ⟨A,x,B,rfl,h1,h2⟩:=last_of ht
   exact ⟨y::A,x,B,rfl,h1,h2⟩
  ·refine ⟨[],y,T,rfl, ?_,fun z hz hp=>ht ⟨z,hz,hp⟩⟩
   obtain ⟨x,hx,hp⟩:=h
   rcases List.mem_cons.1 hx with rfl|hx
   ·exact hp
   ·exact absurd ⟨x,hx,hp⟩ ht
theorem Ch.strike {w:Nat→Cel} {A:List Wr} {x:Wr}:∀ {B:List Wr} {c:Nat→Cel},Ch w (A++[x]++B) c→(∀ y∈B,y.1≠x.1)→∃ c',Ch w (A++B) c'∧(∀ i,c' i=if i=x.1 then x.2.1 else c i)∧c x.1=x.2.2:=by
 intro B
 induction hn:B.length generalizing B with
 |zero=>
  intro c h _
  have:B=[]:=List.eq_nil_of_length_eq_zero hn
  subst this
  rw [List.append_nil] at h ⊢
  obtain ⟨c0,h1,h2,h3⟩:=h.last
  refine ⟨c0,h1,fun i=> ?_,by rw [h3];unfold updC;rw [if_pos rfl]⟩
  split
  ·rename_i e;rw [e];exact h2.symm
  ·rename_i e;rw [h3];unfold updC;rw [if_neg e]
 |succ n ih=>
  intro c h hB
  rcases List.eq_nil_or_concat B with rfl| ⟨B0,y,rfl⟩
  ·simp at hn
  ·rw [List.concat_eq_append] at h hB hn ⊢
   rw [← List.append_assoc] at h
   obtain ⟨c0,h1,h2,h3⟩:=h.last
   obtain ⟨c',k1,k2,k3⟩:=ih (B:=B0) (by simpa using hn) h1 fun z hz=>hB z (List.mem_append_left _ hz)
   have hy:=hB y (by simp)
   refine ⟨updC c' y.1 y.2.2, ?_,fun i=> ?_,by rw [h3];unfold updC;rw [if_neg (fun e=>hy e.symm)];exact k3⟩
   ·have e:y=(y.1,c' y.1,y.2.2):=by rw [k2,if_neg hy,← h2]
    rw [← List.append_assoc]
    have:=k1.snoc y.1 y.2.2
    rwa [← e] at this
   ·unfold updC
    by_cases e1:i=y.1
    ·subst e1
     rw [if_pos rfl,if_neg hy,h3];unfold updC;rw [if_pos rfl]
    ·rw [if_neg e1,k2,h3]
     split
     ·rfl
     ·unfold updC;rw [if_neg e1]
theorem KSet.strikeM {k:Nat} {A B:List Wr} {x y:Wr} (h:KSet k (A++[x]++B)) (hy:y∈A) (e:y.1=x.1):KSet k (A++B):=
 ⟨h.lt,fun z hz=>h.sl z (by rcases List.mem_append.1 hz with hz|hz<;>simp [hz]),fun s hs hb=>by
  obtain ⟨z,hz,e2⟩:=h.al s hs hb
  rcases List.mem_append.1 hz with hz|hz
  ·rcases List.mem_append.1 hz with hz|hz
   ·exact ⟨z,List.mem_append_left _ hz,e2⟩
   ·rw [List.mem_singleton.1 hz] at e2
    exact ⟨y,List.mem_append_left _ hy,e.trans e2⟩
  ·exact ⟨z,List.mem_append_right _ hz,e2⟩⟩
theorem KSet.strikeD {k:Nat} {A B:List Wr} {x:Wr} (h:KSet k (A++[x]++B)) (hA:∀ y∈A,y.1≠x.1) (hB:∀ y∈B,y.1≠x.1):KSet (k2m k x.1) (A++B):=by
 have hx:=h.sl x (by simp)
 have hn:∀ y∈A++B,y.1≠x.1:=fun y hy=>by
  rcases List.mem_append.1 hy with hy|hy
  ·exact hA y hy
  ·exact hB y hy
 have tb:∀ s,(k2m k x.1).testBit s=(k.testBit s ^^ decide (x.1=s)):=fun s=>by
  show (k ^^^ 2 ^ x.1).testBit s=_
  rw [Nat.testBit_xor,Nat.testBit_two_pow]
 refine ⟨Nat.xor_lt_two_pow (n:=4) h.lt (Nat.pow_lt_pow_right (by decide) hx.1),fun z hz=> ?_,fun s hs hb=> ?_⟩
 ·have:=h.sl z (by rcases List.mem_append.1 hz with hz|hz<;>simp [hz])
  refine ⟨this.1, ?_⟩
  rw [tb,this.2,decide_eq_false fun e=>hn z hz e.symm];rfl
 ·rw [tb] at hb
  by_cases e:x.1=s
  ·rw [decide_eq_true e,← e,hx.2] at hb;cases hb
  ·rw [decide_eq_false e] at hb
   have hb:k.testBit s=true:=by rwa [Bool.xor_false] at hb
   obtain ⟨z,hz,e2⟩:=h.al s hs hb
   rcases List.mem_append.1 hz with hz|hz
   ·rcases List.mem_append.1 hz with hz|hz
    ·exact ⟨z,List.mem_append_left _ hz,e2⟩
    ·rw [List.mem_singleton.1 hz] at e2
     exact absurd e2 e
   ·exact ⟨z,List.mem_append_right _ hz,e2⟩
def RwL (d:List (List DV)) (L:Pnd):Prop:=∀ x∈L,1≤x.1∧∃ ptx pp:Int,d[x.1-1]? =some (enR (x.1:Int) 1 1 ptx pp 0 0 x.2.1 x.2.2.1.1 x.2.2.1.2 x.2.2.2.1 x.2.2.2.2)
theorem RwL.push {d:List (List DV)} {L:Pnd} (h:RwL d L) (row:List DV):RwL (d++[row]) L:=fun x hx=>by
 obtain ⟨h1,ptx,pp,e⟩:=h x hx
 have:=(List.getElem?_eq_some_iff.1 e).1
 exact ⟨h1,ptx,pp,by rw [List.getElem?_append_left this];exact e⟩
theorem RwL.cell {d:List (List DV)} {L:Pnd} (h:RwL d L) {x:Nat×Wr} (hx:x∈L):1≤x.1∧x.1≤d.length∧cellD d ((x.1:Int)-1) 6=some (.i 0)∧slotD d (x.1:Int)=x.2.1:=by
 obtain ⟨h1,ptx,pp,e⟩:=h x hx
 have hl:=(List.getElem?_eq_some_iff.1 e).1
 have e2: ((x.1:Int)-1)=((x.1-1:Nat):Int):=by omega
 refine ⟨h1,by omega, ?_, ?_⟩
 ·rw [e2,cell_row e];rfl
 ·unfold slotD
  rw [e2,cell_row e];rfl
theorem pset {d:List (List DV)} {L:Pnd} {k:Nat} (hj:JV d) (h:RwL d L) (hl:L.length≤4000) (hk:KSet k (wrs L)):PSet d (qL L) k:=by
 have mem:∀ n∈nsL L,∃ x∈L,n=(x.1:Int):=fun n hn=>by
  obtain ⟨x,hx,rfl⟩:=List.mem_map.1 hn
  exact ⟨x,hx,rfl⟩
 refine ⟨hk.lt,nsL L,rfl,⟨hj,by unfold nsL;rw [List.length_map];exact hl,fun n hn=> ?_,fun n hn=> ?_,fun n hn=> ?_⟩,fun n hn=> ?_,fun s hs hb=> ?_⟩
 ·obtain ⟨x,hx,rfl⟩:=mem n hn;have:=(h.cell hx).1;omega
 ·obtain ⟨x,hx,rfl⟩:=mem n hn;have:=(h.cell hx).2.1;omega
 ·obtain ⟨x,hx,rfl⟩:=mem n hn;exact (h.cell hx).2.2.1
 ·obtain ⟨x,hx,rfl⟩:=mem n hn
  have:=hk.sl x.2 (List.mem_map.2 ⟨x,hx,rfl⟩)
  exact ⟨x.2.1,this.1,(h.cell hx).2.2.2,this.2⟩
 ·obtain ⟨y,hy,e⟩:=hk.al s hs hb
  obtain ⟨x,hx,rfl⟩:=List.mem_map.1 hy
  exact ⟨_,List.mem_map.2 ⟨x,hx,rfl⟩,by rw [(h.cell hx).2.2.2,e]⟩
theorem lastM_at {d:List (List DV)} {A B:Pnd} {x:Nat×Wr} (h:RwL d (A++x::B)) (hB:∀ y∈B,y.2.1≠x.2.1):lastM d (qL (A++x::B)) (x.2.1:Int)=(x.1:Int)-1:=by
 have go:∀ (R:List Int) (T:List Int),(∀ n∈R,slotD d n≠(x.2.1:Int))→slotD d (x.1:Int)=(x.2.1:Int)→lastIx d (x.2.1:Int) (R++(x.1:Int)::T)=some ((x.1:Int)-1):=by
  intro R
  induction R with
  |nil=>intro T _ e;show lastIx d _ (_::T)=_;unfold lastIx;rw [if_pos e]
  |cons n R ih=>
   intro T hR e
   show lastIx d _ (n:: (R++_::T))=_
   unfold lastIx
   rw [if_neg (hR n List.mem_cons_self)]
   exact ih T (fun m hm=>hR m (List.mem_cons_of_mem _ hm)) e
 have hx:=(h.cell (x:=x) (by simp)).2.2.2
 unfold lastM qL
 rw [nsOf_nsD]
 have e: (nsL (A++x::B)).reverse=(nsL B).reverse++(x.1:Int):: (nsL A).reverse:=by simp [nsL]
 rw [e,go _ _ (fun n hn=>by
  obtain ⟨y,hy,rfl⟩:=List.mem_map.1 (List.mem_reverse.1 hn)
  rw [(h.cell (x:=y) (by simp [hy])).2.2.2]
  have:=hB y hy
  omega) hx]
 rfl
theorem idxD_at {A B:Pnd} {x:Nat×Wr} (hp: (nsL (A++x::B)).Pairwise (· < ·)):idxD (qL (A++x::B)) (x.1:Int)=(A.length:Int):=by
 unfold idxD qL
 rw [nsOf_nsD]
 have e:nsL (A++x::B)=nsL A++(x.1:Int)::nsL B:=by simp [nsL]
 rw [e] at hp ⊢
 have hA:∀ n∈nsL A,n≠(x.1:Int):=fun n hn e=>by
  have:=(List.pairwise_append.1 hp).2.2 n hn (x.1:Int) List.mem_cons_self
  omega
 have hl: (nsL A).length=A.length:=by simp [nsL]
 rw [List.findIdx_append,List.findIdx_eq_length_of_false (fun n hn=>by simpa using hA n hn)]
 rw [if_neg (Nat.lt_irrefl _),List.findIdx_cons]
 simp [hl]
def AscL (L:Pnd) (m:Int):Prop:=(nsL L).Pairwise (· < ·)∧∀ x∈L,1≤x.1∧(x.1:Int)≤m
theorem AscL.asc {L:Pnd} {m:Int} (h:AscL L m) (hl:L.length≤4000) (hm:m≤4000):Asc (qL L) m:=by
 refine ⟨by rw [qL_len];exact hl,hm,nsL L,rfl,h.1,fun n hn=> ?_⟩
 obtain ⟨x,hx,rfl⟩:=List.mem_map.1 hn
 have:=h.2 x hx
 omega
theorem AscL.strike {A B:Pnd} {x:Nat×Wr} {m m':Int} (h:AscL (A++x::B) m) (hm:m≤m'):AscL (A++B) m':=by
 refine ⟨?_,fun y hy=> ?_⟩
 ·have:=h.1
  rw [nsL_app] at this ⊢
  rw [List.pairwise_append] at this ⊢
  refine ⟨this.1, ?_,fun n hn k hk=>this.2.2 n hn k (List.mem_cons_of_mem _ hk)⟩
  exact (List.pairwise_cons.1 this.2.1).2
 ·have:=h.2 y (by rcases List.mem_append.1 hy with hy|hy<;>simp [hy])
  omega
structure JH (d50 d51:List (List DV)) (n a m v K:Nat) (L:Pnd) (b:Nat→MV):Prop where
 f: (b 50).d=d50
 fl:d50.length=n
 n1:1≤n
 n30:n≤30
 y:JV (b 0).d
 len: (b 0).d.length+L.length≤K
 k200:K≤200
 l2:2≤(b 0).d.length
 la:1≤(b 2).i∧(b 2).i≤(b 0).d.length
 lb:0≤(b 5).i∧(b 5).i≤(b 0).d.length
 pl:1≤(b 3).i∧(b 3).i≤(b 0).d.length
 du: (b 4).i=0
 q: (b 1).d=qL L
 qa:AscL L (b 2).i
 ql:L.length≤n
 qy:L.length≤(b 0).d.length
 qb:Asc (b 9).d (b 5).i
 qbl: (b 9).d.length≤(b 0).d.length
 rw:RwL (b 0).d L
 ks:KSet a (wrs L)
 ch:∃ c,Ch cE (wrs L) c∧∀ i,i<4→m.testBit i=false→pcl b i=c i
 mi:∀ i,i<4→m.testBit i=true→pcl b i=(true,mineB)
 cv:∀ i,i<4→VCell (pcl b i).1 (pcl b i).2
 ok:okST a m v=true
 lt:m<16∧v<3
theorem okAll: ((List.range 16).all fun a=>(List.range 16).all fun m=>(List.range 3).all fun v=>(List.range 4).all fun s=> !okST a m v||((!Nat.testBit a s||(!Nat.testBit m s&&okST (k2m a s) m 1))&&(Nat.testBit a s||(okST a (m|||2 ^ s) (vW m v s)&&(Nat.blt (m|||2 ^ s) 16&&Nat.blt (vW m v s) 3)))))=true:=by kernel_rfl
theorem ok_at {a m v s:Nat} (ha:a<16) (hm:m<16) (hv:v<3) (hs:s<4) (h:okST a m v=true): (a.testBit s=true→m.testBit s=false∧okST (k2m a s) m 1=true)∧(a.testBit s=false→okST a (m|||2 ^ s) (vW m v s)=true∧m|||2 ^ s<16∧vW m v s<3):=by
 have:=List.all_eq_true.1 (List.all_eq_true.1 (List.all_eq_true.1 (List.all_eq_true.1 okAll a (List.mem_range.2 ha)) m (List.mem_range.2 hm)) v (List.mem_range.2 hv)) s (List.mem_range.2 hs)
 rw [h] at this
 constructor
 ·intro e
  rw [e] at this
  simp only [Bool.not_true,Bool.false_or,Bool.true_or,Bool.and_true,Bool.and_eq_true] at this
  exact ⟨by simpa using this.1,this.2⟩
 ·intro e
  rw [e] at this
  simp only [Bool.not_true,Bool.not_false,Bool.false_or,Bool.true_or,Bool.true_and,Bool.and_eq_true] at this
  exact ⟨this.1,Nat.le_of_ble_eq_true this.2.1,Nat.le_of_ble_eq_true this.2.2⟩
theorem JH.undo {d50 d51:List (List DV)} {n a a' m v v' K s:Nat} {A B:Pnd} {x:Nat×Wr} {b b':Nat→MV} (h:JH d50 d51 n a m v K (A++x::B) b) (hs:s=x.2.1) (hB:∀ y∈B,y.2.1≠x.2.1) (hv:VCell x.2.2.1.1 x.2.2.1.2) (hva:VCell x.2.2.2.1 x.2.2.2.2)
  (hy: (b' 0).d=(b 0).d++[enR (((b 0).d.length:Int)+1) 2 1 (b 2).i (b 3).i (x.1:Int) 0 s x.2.2.2.1 x.2.2.2.2 x.2.2.1.1 x.2.2.1.2]) (hq: (b' 1).d=(b 1).d.eraseIdx A.length) (h2: (b' 2).i=((b 0).d.length:Int)+1) (h3: (b' 3).i=((b 0).d.length:Int)+1) (h4: (b' 4).i=(b 4).i) (h5: (b' 5).i=(b 5).i) (h9: (b' 9).d=(b 9).d) (h50: (b' 50).d=(b 50).d)
  (hc:∀ i,i<4→pcl b' i=if i=s then x.2.2.1 else pcl b i) (hks:KSet a' (wrs (A++B))) (hok:okST a' m v'=true) (hv':v'<3):JH d50 d51 n a' m v' K (A++B) b':=by
 subst hs
 have hlen:=h.len
 have hK:=h.k200
 have hla:=h.la
 have hlb:=h.lb
 have hpl:=h.pl
 have hl2:=h.l2
 have hql:=h.ql
 have hqb:=h.qbl
 have e1: (b' 0).d.length=(b 0).d.length+1:=by rw [hy];simp
 have e2: (A++x::B).length=(A++B).length+1:=by simp;omega
 obtain ⟨x1,xm⟩:=h.qa.2 x (by simp)
 have hxs:=h.ks.sl x.2 (List.mem_map.2 ⟨x,by simp,rfl⟩)
 have hms:=((ok_at h.ks.lt h.lt.1 h.lt.2 hxs.1 h.ok).1 hxs.2).1
 have hwr:wrs (A++x::B)=wrs A++[x.2]++wrs B:=by simp [wrs]
 obtain ⟨c,c1,c2⟩:=h.ch
 rw [hwr] at c1
 obtain ⟨c',k1,k2,k3⟩:=c1.strike fun y hy=>by
  obtain ⟨z,hz,rfl⟩:=List.mem_map.1 hy
  exact hB z hz
 refine ⟨by rw [h50,h.f],h.fl,h.n1,h.n30, ?_,by omega,hK,by omega,by omega,by omega,by omega,by rw [h4,h.du], ?_,h.qa.strike (by omega),by omega,by have:=h.qy;omega, ?_,by rw [h9];omega, ?_,hks, ?_,fun i hi hm=> ?_,fun i hi=> ?_,hok,h.lt.1,hv'⟩
 ·rw [hy]
  exact h.y.push (by omega) (en_ok (.inl rfl) (by omega) (.inr ⟨rfl,by omega,by omega⟩) (by omega) (by omega) (by omega) (by omega) (by omega) hva hv)
 ·rw [hq,h.q,qL_del]
 ·rw [h9,h5];exact h.qb
 ·rw [hy]
  exact RwL.push (fun y hy=>h.rw y (by rcases List.mem_append.1 hy with hy|hy<;>simp [hy])) _
 ·refine ⟨c',by rw [wrs_app];exact k1,fun i hi hm=> ?_⟩
  rw [hc i hi,k2 i]
  split
  ·rfl
  ·exact c2 i hi hm
 ·rw [hc i hi,if_neg (fun e=>by rw [e,hms] at hm;cases hm)]
  exact h.mi i hi hm
 ·rw [hc i hi]
  split
  ·exact hv
  ·exact h.cv i hi
theorem Asc.snoc {q:List (List DV)} {m x:Int} (h:Asc q m) (h1:0≤m) (h2:m<x) (h3:x≤4000) (hl:q.length<4000):Asc (q++[[DV.i x]]) x:=by
 obtain ⟨a1,a2,ns,rfl,a3,a4⟩:=h
 refine ⟨by simp at hl ⊢;omega,h3,ns++[x],by simp, ?_,fun y hy=> ?_⟩
 ·rw [List.pairwise_append]
  refine ⟨a3,List.pairwise_singleton _ _,fun n hn k hk=> ?_⟩
  rw [List.mem_singleton.1 hk]
  have:=a4 n hn
  omega
 ·rcases List.mem_append.1 hy with hy|hy
  ·have:=a4 y hy;omega
  ·rw [List.mem_singleton.1 hy];omega
theorem JH.mine {d50 d51:List (List DV)} {n a m v K s:Nat} {L:Pnd} {b b':Nat→MV} (h:JH d50 d51 n a m v K L b) (hs:s<4) (hf:a.testBit s=false) (hK:K<200)
  (hy: (b' 0).d=(b 0).d++[enR (((b 0).d.length:Int)+1) 1 2 (b 5).i (b 3).i 0 0 s (pcl b s).1 (pcl b s).2 true mineB]) (h9: (b' 9).d=(b 9).d++[[DV.i (((b 0).d.length:Int)+1)]]) (h1: (b' 1).d=(b 1).d) (h2: (b' 2).i=(b 2).i) (h3: (b' 3).i=((b 0).d.length:Int)+1) (h4: (b' 4).i=(b 4).i) (h5: (b' 5).i=((b 0).d.length:Int)+1) (h50: (b' 50).d=(b 50).d)
  (hc:∀ i,i<4→pcl b' i=if i=s then (true,mineB) else pcl b i):JH d50 d51 n a (m|||2 ^ s) (vW m v s) (K+1) L b':=by
 have hlen:=h.len
 have hla:=h.la
 have hlb:=h.lb
 have hpl:=h.pl
 have hl2:=h.l2
 have hqb:=h.qbl
 have e1: (b' 0).d.length=(b 0).d.length+1:=by rw [hy];simp
 obtain ⟨o1,o2,o3⟩:=(ok_at h.ks.lt h.lt.1 h.lt.2 hs h.ok).2 hf
 obtain ⟨c,c1,c2⟩:=h.ch
 have hb1:∀ i,(m|||2 ^ s).testBit i=(m.testBit i||decide (s=i)):=fun i=>by rw [Nat.testBit_or,Nat.testBit_two_pow]
 refine ⟨by rw [h50,h.f],h.fl,h.n1,h.n30, ?_,by omega,by omega,by omega,by omega,by omega,by omega,by rw [h4,h.du],by rw [h1,h.q],by rw [h2];exact h.qa,h.ql,by have:=h.qy;omega, ?_,by rw [h9,List.length_append];simp;omega,by rw [hy];exact h.rw.push _,h.ks,⟨c,c1,fun i hi hm=> ?_⟩,fun i hi hm=> ?_,fun i hi=> ?_,o1,o2,o3⟩
 ·rw [hy]
  exact h.y.push (by omega) (en_ok (.inr rfl) (by omega) (.inl ⟨rfl,rfl⟩) (by omega) (by omega) (by omega) (by omega) (by omega) (h.cv s hs) mine_ok)
 ·rw [h9,h5]
  exact h.qb.snoc (by omega) (by omega) (by omega) (by omega)
 ·rw [hb1,Bool.or_eq_false_iff,decide_eq_false_iff_not] at hm
  rw [hc i hi,if_neg (fun e=>hm.2 e.symm)]
  exact c2 i hi hm.1
 ·rw [hc i hi]
  split
  ·rfl
  ·rename_i e
   rw [hb1,Bool.or_eq_true,decide_eq_true_eq] at hm
   rcases hm with hm|hm
   ·exact h.mi i hi hm
   ·exact absurd hm.symm e
 ·rw [hc i hi]
  split
  ·exact mine_ok
  ·exact h.cv i hi
theorem JH.congr {d50 d51:List (List DV)} {n a m v K K':Nat} {L:Pnd} {b b':Nat→MV} (h:JH d50 d51 n a m v K L b) (hK:K≤K') (hK2:K'≤200) (e:∀ j,j≠7→j≠8→j≠12→j≠52→b' j=b j):JH d50 d51 n a m v K' L b':=by
 have e0:=e 0 (by decide) (by decide) (by decide) (by decide)
 have e1:=e 1 (by decide) (by decide) (by decide) (by decide)
 have e2:=e 2 (by decide) (by decide) (by decide) (by decide)
 have e3:=e 3 (by decide) (by decide) (by decide) (by decide)
 have e4:=e 4 (by decide) (by decide) (by decide) (by decide)
 have e5:=e 5 (by decide) (by decide) (by decide) (by decide)
 have e9:=e 9 (by decide) (by decide) (by decide) (by decide)
 have e50:=e 50 (by decide) (by decide) (by decide) (by decide)
 have ec:∀ i,i<4→pcl b' i=pcl b i:=fun i hi=>by
  unfold pcl
  rw [e (20+2*i) (by omega) (by omega) (by omega) (by omega),e (21+2*i) (by omega) (by omega) (by omega) (by omega)]
 have hlen:=h.len
 obtain ⟨c,c1,c2⟩:=h.ch
 exact ⟨by rw [e50,h.f],h.fl,h.n1,h.n30,by rw [e0];exact h.y,by rw [e0];omega,hK2,by rw [e0];exact h.l2,by rw [e2,e0];exact h.la,by rw [e5,e0];exact h.lb,by rw [e3,e0];exact h.pl,by rw [e4];exact h.du,by rw [e1];exact h.q,by rw [e2];exact h.qa,h.ql,by rw [e0];exact h.qy,by rw [e9,e5];exact h.qb,by rw [e9,e0];exact h.qbl,by rw [e0];exact h.rw,h.ks,⟨c,c1,fun i hi hm=>by rw [ec i hi];exact c2 i hi hm⟩,fun i hi hm=>by rw [ec i hi];exact h.mi i hi hm,fun i hi=>by rw [ec i hi];exact h.cv i hi,h.ok,h.lt⟩
def pndF:Nat→List Wr→Pnd
 | _,[]=>[]
 |i,x::H=>(i+1,x)::pndF (i+1) H
theorem pndF_wrs:∀ (i:Nat) (H:List Wr),wrs (pndF i H)=H
 | _,[]=>rfl
 |i,x::H=>by
  show x::wrs (pndF (i+1) H)=_
  rw [pndF_wrs]
theorem pndF_len (i:Nat) (H:List Wr): (pndF i H).length=H.length:=by
 have:=congrArg List.length (pndF_wrs i H)
 simpa [wrs] using this
theorem pndF_ns:∀ (j:Nat) (H:List Wr),nsL (pndF j H)=(List.range H.length).map fun i=>((j+i+1:Nat):Int)
 | _,[]=>rfl
 |j,x::H=>by
  show ((j+1:Nat):Int)::nsL (pndF (j+1) H)=_
  rw [pndF_ns,List.length_cons,List.range_succ_eq_map,List.map_cons,List.map_map]
  congr 1
  refine List.map_congr_left fun i _=> ?_
  show ((j+1+i+1:Nat):Int)=((j+(i+1)+1:Nat):Int)
  congr 1;omega
theorem pndF_mem:∀ {j:Nat} {H:List Wr} {x:Nat×Wr},x∈pndF j H→∃ i,x.1=j+i+1∧H[i]? =some x.2
 | _,[],x,h=>nomatch h
 |j,y::H,x,h=>by
  rcases List.mem_cons.1 (show x∈(j+1,y)::pndF (j+1) H from h) with rfl|h
  ·exact ⟨0,rfl,rfl⟩
  ·obtain ⟨i,h1,h2⟩:=pndF_mem h
   exact ⟨i+1,by omega,h2⟩
theorem pndF_q (H:List Wr):qL (pndF 0 H)=iot H.length:=by
 unfold qL iot
 rw [pndF_ns]
 congr 1
 refine List.map_congr_left fun i _=> ?_
 show ((0+i+1:Nat):Int)=((i+1:Nat):Int)
 rw [Nat.zero_add]
theorem pndF_rw {d:List (List DV)} {H:List Wr} (h:Rws d 0 H):RwL d (pndF 0 H):=fun x hx=>by
 obtain ⟨i,h1,h2⟩:=pndF_mem hx
 obtain ⟨ptx,pp,e⟩:=h i x.2 h2
 refine ⟨by omega,ptx,pp, ?_⟩
 rw [show x.1-1=0+i by omega,e]
 rw [show (((0+i:Nat):Int)+1)=(x.1:Int) by omega]
theorem pndF_asc {H:List Wr} {m:Int} (h: (H.length:Int)≤m):AscL (pndF 0 H) m:=by
 refine ⟨?_,fun x hx=> ?_⟩
 ·rw [pndF_ns,List.pairwise_map]
  exact List.pairwise_lt_range.imp fun h=>by omega
 ·obtain ⟨i,h1,h2⟩:=pndF_mem hx
  have:=(List.getElem?_eq_some_iff.1 h2).1
  omega
theorem JW.ay {d50:List (List DV)} {k:Nat} {H:List Wr} {b:Nat→MV} {y:List (List DV)} (h:JW d50 k H b) (h7: (b 7).i=d50.length) (hl0:1≤d50.length) (hl:d50.length≤30) (hy:y=(b 0).d++[enR (((b 0).d.length:Int)+1) 4 1 (b 2).i 0 0 0 0 false ⟨#[]⟩ false ⟨#[]⟩]):JV y∧RwL y (pndF 0 H)∧y.length=d50.length+1∧H.length=d50.length:=by
 have hn:=h.n
 have hla:=h.kb.la
 have hhl:=h.hl
 rw [show enR (((b 0).d.length:Int)+1) 4 1 (b 2).i 0 0 0 0 false ⟨#[]⟩ false ⟨#[]⟩=abR (b 0).d.length 4 1 (b 2).i from rfl] at hy
 subst hy
 refine ⟨h.kb.y.push (by omega) (ab_ok (.inl rfl) (.inr (.inl rfl)) (by omega) (by omega)),pndF_rw (h.rw.push' _),by rw [List.length_append];simp;omega,by omega⟩
theorem JW.aset {d50:List (List DV)} {k:Nat} {H:List Wr} {b:Nat→MV} {y:List (List DV)} (h:JW d50 k H b) (h7: (b 7).i=d50.length) (hl0:1≤d50.length) (hl:d50.length≤30) (hy:y=(b 0).d++[enR (((b 0).d.length:Int)+1) 4 1 (b 2).i 0 0 0 0 false ⟨#[]⟩ false ⟨#[]⟩]):PSet y (b 1).d k:=by
 obtain ⟨h1,h2,h3,h4⟩:=h.ay h7 hl0 hl hy
 have:=pset (k:=k) h1 h2 (by rw [pndF_len];omega) (by rw [pndF_wrs];exact ⟨h.k16,h.sl,h.al⟩)
 rw [pndF_q,h.hl,← h.kb.q] at this
 exact this
theorem JW.begin {d50 d51:List (List DV)} {k:Nat} {H:List Wr} {b b':Nat→MV} (h:JW d50 k H b) (h7: (b 7).i=d50.length) (hl:d50.length≤30) (hk:k≠0) (hy: (b' 0).d=(b 0).d++[enR (((b 0).d.length:Int)+1) 4 1 (b 2).i 0 0 0 0 false ⟨#[]⟩ false ⟨#[]⟩]) (hq: (b' 1).d=(b 1).d) (h2: (b' 2).i=((b 0).d.length:Int)+1) (h3: (b' 3).i=(b 3).i) (h4: (b' 4).i=(b 4).i) (h5: (b' 5).i=0) (h9: (b' 9).d=[]) (h50: (b' 50).d=(b 50).d)
  (hc:∀ i,i<4→pcl b' i=pcl b i):JH d50 d51 d50.length k 0 0 (2*d50.length+1) (pndF 0 H) b':=by
 have hn:=h.n
 have hla:=h.kb.la
 have hpl:=h.kb.pl hk
 have hl0:1≤d50.length:=by
  have: (b 0).d.length≠0:=fun e=>hk (h.kb.k0.2 e)
  omega
 obtain ⟨a1,a2,a3,a4⟩:=h.ay h7 hl0 hl hy
 obtain ⟨c,c1,c2⟩:=h.ch
 have hpc:∀ i,pc k b i=pcl b i:=fun i=>by unfold pc pcl;rw [if_neg hk]
 refine ⟨by rw [h50,h.f],rfl,hl0,hl,a1,by rw [a3,pndF_len];omega,by omega,by omega,by omega,by omega,by omega,by rw [h4,h.kb.du],by rw [hq,h.kb.q,pndF_q,h.hl],pndF_asc (by omega),by rw [pndF_len];omega,by rw [pndF_len];omega, ?_,by rw [h9];exact Nat.zero_le _,a2,by rw [pndF_wrs];exact ⟨h.k16,h.sl,h.al⟩,⟨c,by rw [pndF_wrs];exact c1,fun i hi _=>by rw [hc i hi,← hpc i,c2 i hi]⟩,(fun i hi hm=>by rw [Nat.zero_testBit] at hm;cases hm),fun i hi=>by rw [hc i hi];exact h.kb.c hk i hi, ?_,by decide,by decide⟩
 ·rw [h9,h5];exact iot_asc (n:=0) (Int.le_refl _) (by decide)
 ·unfold okST
  rw [Nat.and_zero]
  cases k with
  |zero=>exact absurd rfl hk
  |succ k=>rfl
structure JO (m:Nat) (b:Nat→MV):Prop where
 lt:m<16
 pl:1≤(b 3).i∧(b 3).i≤900
 ce:∀ i,i<4→pcl b i=if m.testBit i then (true,mineB) else (false,⟨#[]⟩)
theorem Ch.inv_nil {w c:Nat→Cel} (h:Ch w [] c):c=w:=by
 generalize hH: ([]:List Wr)=H at h
 cases h with
 |nil=>rfl
 |snoc h s x=>simp at hH
theorem JH.over {d50 d51:List (List DV)} {n a m v K:Nat} {b b':Nat→MV} (h:JH d50 d51 n a m v K [] b) (h3: (b' 3).i=(b 3).i) (hc:∀ i,i<4→pcl b' i=pcl b i):JO m b':=by
 have hpl:=h.pl
 have hlen:=h.len
 have hK:=h.k200
 obtain ⟨c,c1,c2⟩:=h.ch
 rw [show wrs []=[] from rfl] at c1
 rw [c1.inv_nil] at c2
 refine ⟨h.lt.1,by omega,fun i hi=> ?_⟩
 rw [hc i hi]
 cases hm:m.testBit i with
 |true=>exact h.mi i hi hm
 |false=>exact c2 i hi hm
end Go.Proofs.YtnofmmceafkkoaaGreat
