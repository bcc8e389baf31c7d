/-
  RollbackCells: the second half of the walk: the rounds, the whole law (printed by a program).
-/
import Derived.Test.YtnofmmceafkkoaaGreatEcG
set_option linter.unusedVariables false
set_option linter.unusedSimpArgs false
set_option maxRecDepth 100000
namespace Go.Proofs.YtnofmmceafkkoaaGreat
open Go.RowKit
theorem runL_app {P:Program} {E:Env} {T:Tab} {n:Nat}:∀ {l1 l2:List ACd} {fr:Fr} {h:Hp} {fr':Fr} {h':Hp},runL P E T n (l1++l2) fr h= .nrm fr' h'→∃ fr1 h1,runL P E T n l1 fr h= .nrm fr1 h1∧runL P E T n l2 fr1 h1= .nrm fr' h'
 | [],l2,fr,h,fr',h',e=>⟨fr,h,rfl,e⟩
 |c::l,l2,fr,h,fr',h',e=>by
  have e':RC.casesOn (motive:=fun _=>RC) (aev P E T n c fr h) .no (runL P E T n (l++l2)) (fun _ _ _=> .no) (fun _ _=> .no)= .nrm fr' h':=e
  cases hc:aev P E T n c fr h with
  |nrm f q=>
   rw [hc] at e'
   obtain ⟨f1,q1,k1,k2⟩:=runL_app (l1:=l) e'
   refine ⟨f1,q1, ?_,k2⟩
   show RC.casesOn (motive:=fun _=>RC) (aev P E T n c fr h) .no (runL P E T n l) (fun _ _ _=> .no) (fun _ _=> .no)=_
   rw [hc];exact k1
  |no=>rw [hc] at e';cases e'
  |ex i f q=>rw [hc] at e';cases e'
  |ret f q=>rw [hc] at e';cases e'
theorem Tri.two_loop {P:Program} {N:Nat} {E:Env} {T:Tab} {n:Nat} (hcode:CodeOk P E T n) {ρ ρ':Vn} (he:EnvOk E ρ) {j1 j2 id:Nat} {ac bx r x y tl:ACd} {l1 l2:List ACd} (hcut1:cutA j1 ac=some (l1, .seq (.block id bx) tl)) (hcut2:cutA j2 bx=some (l2, .seq (.seq r x) y)) {s s':Lit} {nm:Nms}
  (hend:endsX .nrm nm s' (runL P E T n (l1++(l2++[r])) s.frame s.hp)=true) (hr:Ren ρ ρ' nm) {w0:World} {Mid1 Mid2:Act→World→Prop} {Post:Exit→Act→World→Prop} (hx:Tri P N x (At w0 N ρ' s') fun e a w=>e= .normal∧Mid1 a w) (hy:Tri P N y Mid1 fun e a w=>e= .normal∧Mid2 a w) (ht:Tri P N tl Mid2 Post):
  Tri P N ac (At w0 N ρ s) Post:=by
 obtain ⟨m,hm⟩:=endsX_ok hend
 cases hrun:runL P E T n (l1++(l2++[r])) s.frame s.hp with
 |no=>rw [hrun] at hm;cases hm
 |ex id f q=>rw [hrun] at hm;cases hm
 |ret f q=>rw [hrun] at hm;cases hm
 |nrm fr' h'=>
  rw [hrun] at hm
  obtain ⟨fr1,h1,k1,k2⟩:=runL_app hrun
  obtain ⟨fr2,h2,k3,k4⟩:=runL_app k2
  have k5:aev P E T n r fr2 h2= .nrm fr' h':=by
   have k4':RC.casesOn (motive:=fun _=>RC) (aev P E T n r fr2 h2) .no RC.nrm (fun _ _ _=> .no) (fun _ _=> .no)= .nrm fr' h':=k4
   cases hc:aev P E T n r fr2 h2 with
   |nrm f q=>rw [hc] at k4';exact k4'
   |no=>rw [hc] at k4';cases k4'
   |ex i f q=>rw [hc] at k4';cases k4'
   |ret f q=>rw [hc] at k4';cases k4'
  refine Tri.preH hcode he (r:= .seq (.block id bx) tl) (fr':=fr1) (h':=h1) ?_ hcut1 k1
  refine Tri.seq (Mid:=Mid2) ?_ ht
  refine (Tri.block (Post:=fun e a w=>e= .normal∧Mid2 a w) ?_).post fun e a w h=> .inl h
  refine Tri.post (Post:=fun e a w=>e= .normal∧Mid2 a w) ?_ fun e a w h=> .inl ⟨.inl h.1,rfl,h.2⟩
  refine Tri.preH hcode he (r:= .seq (.seq r x) y) (fr':=fr2) (h':=h2) ?_ hcut2 k3
  refine Tri.seq (Mid:=Mid1) ?_ hy
  refine Tri.seq (Mid:=At w0 N ρ' s') ?_ (hx.post fun e a w h=> .inl h)
  intro c hcc a w hat
  obtain ⟨φ,q1,q2,q3,q4,q5⟩:=hat
  refine wp_mono (hcode N c r hcc fr2 h2 _ k5 (by simp) ρ φ a w he q1 q2 q5) ?_
  rintro e a' w' ⟨rfl,φ',p1,p2,p3,p4⟩
  exact ⟨trivial, .inl ⟨rfl,At.fits hm hr p1 p2.rel (q3.step p2) (p3.trans q4) (by omega)⟩⟩
section
variable {w0 : World} {N : Nat} {g : Nm → Value} {z : Nat → Option Obj} {b : Nat → MV} {k p n a m v K s : Nat} {d50 d51 : List (List DV)} {H R : List Wr} {L : Pnd}
structure RowI (d51:List (List DV)) (b:Nat→MV):Prop where
 row: (b 52).d=rowD d51
 l40:d51.length≤40
 by_:Byt d51
 ln: (b 8).i=d51.length+4
 i0:0≤(b 7).i
 i1: (b 7).i≤d51.length+4
theorem RowI.congr {b':Nat→MV} (h:RowI d51 b) (e52: (b' 52).d=(b 52).d) (e8: (b' 8).i=(b 8).i) (i0:0≤(b' 7).i) (i1: (b' 7).i≤d51.length+4):RowI d51 b':=⟨by rw [e52,h.row],h.l40,h.by_,by rw [e8,h.ln],i0,i1⟩
theorem RowI.len (h:RowI d51 b): (((b 52).d.length:Nat):Int)=d51.length+4:=by rw [h.row];unfold rowD;rw [List.length_append];rfl
theorem RowI.head (h:RowI d51 b) (F:List Fc) (hF:∀ f∈F,f.holds QR (vb b g z)):∀ f∈ .rng (.v (nat_lit 7)) 0 44:: .rng (.v (nat_lit 8)) 4 44:: .rng (.f1 (nat_lit 5) (.v (nat_lit 52))) 4 44::F,f.holds QR (vb b g z):=by
 have h0:=h.i0
 have h1:=h.i1
 have h2:=h.l40
 have h3:=h.ln
 have h4:=h.len
 exact rI 7 0 44 (by omega) (by omega) (rI 8 4 44 (by omega) (by omega) (rL 52 4 44 (by omega) (by omega) hF))
theorem fIn_ok (h:RowI d51 b) (hlt: (b 7).i<d51.length+4):∀ f∈fIn,f.holds QR (vb b g z):=by
 have h0:=h.i0
 have h2:=h.l40
 have h3:=h.ln
 have h4:=h.len
 exact h.head _ (dI 7 8 (.negSucc 43) (.negSucc 0) (by omega) (by omega) (dL 7 52 (.negSucc 43) (.negSucc 0) (by omega) (by omega) facts_nil))
theorem fOut_ok (h:RowI d51 b) (hge: (b 7).i=d51.length+4):∀ f∈fOut,f.holds QR (vb b g z):=by
 have h3:=h.ln
 exact h.head _ (dI 7 8 0 0 (by omega) (by omega) facts_nil)
abbrev tB:Nm:= .f2 (100+0) (.v 52) (.v 7)
theorem byte_of (h:RowI d51 b) (hlt: (b 7).i<d51.length+4):∃ x:Int,(vb b g z).i tB=x∧0≤x∧x≤255∧(d51.length≤(b 7).i→x=(b 7).i-d51.length):=by
 obtain ⟨i,hi⟩:=Int.eq_ofNat_of_zero_le h.i0
 have key:∃ x:Int,(rowD d51)[i]? =some [.i x]∧0≤x∧x≤255∧(d51.length≤i→x=(i:Int)-d51.length):=by
  unfold rowD
  by_cases hl:i<d51.length
  ·obtain ⟨row,hrow⟩:=list_cases (d:=d51) hl
   obtain ⟨x,rfl,x0,x1⟩:=h.by_ i row hrow
   exact ⟨x,by rw [List.getElem?_append_left hl];exact hrow,x0,x1,fun e=>absurd hl (by omega)⟩
  ·obtain ⟨j,rfl⟩:∃ j,i=d51.length+j:=⟨i-d51.length,by omega⟩
   have hj:j<4:=by omega
   refine ⟨j, ?_,by omega,by omega,fun _=>by omega⟩
   rw [List.getElem?_append_right (by omega),Nat.add_sub_cancel_left]
   have:j=0∨j=1∨j=2∨j=3:=by omega
   rcases this with rfl|rfl|rfl|rfl<;>rfl
 obtain ⟨x,k1,k2,k3,k4⟩:=key
 have hy: ((vb b g z).d (.v 52))[i]? =some [DV.i x]:=(congrArg (fun x:List (List DV)=>x[i]?) h.row).trans k1
 exact ⟨x,ci_row hy (show (vb b g z).i (.v 7)=i from hi) 0 (by decide) rfl,k2,k3,fun e=>by rw [k4 (by omega),hi]⟩
theorem fS_ok (h:JH d50 d51 n a m v K L b):∀ f∈fS,f.holds QR (vb b g z):=by
 have hlen:=h.len
 have hK:=h.k200
 have hl2:=h.l2
 obtain ⟨a1,a2⟩:=h.la
 obtain ⟨b1,b2⟩:=h.lb
 obtain ⟨p1,p2⟩:=h.pl
 have hd:=h.du
 have hqy:=h.qy
 have hqb:=h.qbl
 have hc:=h.cv
 have hq: (((b 1).d.length:Nat):Int)=L.length:=by rw [h.q,qL_len]
 have asc:Asc (b 1).d (b 2).i:=by rw [h.q];exact h.qa.asc (by omega) (by omega)
 exact rL 0 2 900 (by omega) (by omega) (rI 2 1 900 (by omega) (by omega) (rI 5 0 900 (by omega) (by omega) (rI 3 1 900 (by omega) (by omega) (rI 4 0 0 (by omega) (by omega)
  (dL 2 0 (.negSucc 899) 0 (by omega) (by omega) (dL 5 0 (.negSucc 899) 0 (by omega) (by omega) (dL 3 0 (.negSucc 899) 0 (by omega) (by omega)
  (dL 4 0 (.negSucc 899) (.negSucc 0) (by omega) (by omega) (rL 1 0 900 (by omega) (by omega) (dM 1 0 (.negSucc 899) 0 (by omega) (by omega)
  (rL 9 0 900 (by omega) (by omega) (dM 9 0 (.negSucc 899) 0 (by omega) (by omega)
  (facts_cons (show JV (b 0).d from h.y) (facts_cons (show Asc (b 1).d (b 2).i from asc) (facts_cons (show Asc (b 9).d (b 5).i from h.qb) (facts_cons (hc 0 (by decide)) (facts_cons (hc 1 (by decide)) (facts_cons (hc 2 (by decide)) (facts_cons (hc 3 (by decide)) facts_nil)))))))))))))))))))
theorem fBg_ok (h:JH d50 d51 n a m v K L (nb b rBg)):∀ f∈fBg,f.holds QR (vb b g z):=by
 have hlen: (b 0).d.length+L.length≤K:=h.len
 have hK:=h.k200
 have hl2:2≤(b 0).d.length:=h.l2
 obtain ⟨a1,a2⟩:1≤(b 2).i∧(b 2).i≤(b 0).d.length:=h.la
 obtain ⟨p1,p2⟩:1≤(b 3).i∧(b 3).i≤(b 0).d.length:=h.pl
 have hd: (b 4).i=0:=h.du
 have hqy:L.length≤(b 0).d.length:=h.qy
 have hc:=h.cv
 have hq0: (b 1).d=qL L:=h.q
 have hq: (((b 1).d.length:Nat):Int)=L.length:=by rw [hq0,qL_len]
 have asc:Asc (b 1).d (b 2).i:=by rw [hq0];exact AscL.asc (m:=(b 2).i) h.qa (by omega) (by omega)
 exact rL 0 2 900 (by omega) (by omega) (rI 2 1 900 (by omega) (by omega) (rI 3 1 900 (by omega) (by omega) (rI 4 0 0 (by omega) (by omega)
  (dL 2 0 (.negSucc 899) 0 (by omega) (by omega) (dL 3 0 (.negSucc 899) 0 (by omega) (by omega)
  (dL 4 0 (.negSucc 899) (.negSucc 0) (by omega) (by omega) (rL 1 0 900 (by omega) (by omega) (dM 1 0 (.negSucc 899) 0 (by omega) (by omega)
  (facts_cons (show JV (b 0).d from h.y) (facts_cons (show Asc (b 1).d (b 2).i from asc) (facts_cons (hc 0 (by decide)) (facts_cons (hc 1 (by decide)) (facts_cons (hc 2 (by decide)) (facts_cons (hc 3 (by decide)) facts_nil))))))))))))))
theorem rgl {x q lo hi:Int} (h:x=q) (k:lo≤q∧q≤hi):lo≤x∧x≤hi:=by rw [h];exact k
theorem df {x y q lo hi:Int} (h:x=q) (k:lo≤q-y∧q-y≤hi):lo≤x-y∧x-y≤hi:=by rw [h];exact k
theorem d0 {x y q:Int} (h:x=q) (k:y=q): (0:Int)≤x-y∧x-y≤0:=by omega
structure Ent (ρ:Vn) (e:Nat→Nm) (x:Nat×Wr):Prop where
 c0:ρ.i (e 100)=(x.1:Int)
 c6:ρ.i (e 106)=0
 c7:ρ.i (e 107)=x.2.1
 c8:ρ.b (e 108)=x.2.2.1.1
 c9:ρ.s (e 109)=x.2.2.1.2
 c10:ρ.b (e 110)=x.2.2.2.1
 c11:ρ.s (e 111)=x.2.2.2.2
 okb:VCell x.2.2.1.1 x.2.2.1.2
 oka:VCell x.2.2.2.1 x.2.2.2.2
theorem ent_at {x:Nat×Wr} {t:Nm} (h:JH d50 d51 n a m v K L b) (hx:x∈L) (ht: (vb b g z).i t=(x.1:Int)-1):Ent (vb b g z) (fun o=> .f2 o (.v (nat_lit 0)) t) x:=by
 obtain ⟨h1,ptx,pp,hrow⟩:=h.rw x hx
 have hi: (vb b g z).i t=((x.1-1:Nat):Int):=by rw [ht];omega
 have hy: ((vb b g z).d (.v 0))[x.1-1]? =some _:=hrow
 obtain ⟨kind,tx,ptx',pp',ref,pg,sl,bs,bd,az,ad,er,_,_,_,_,_,_,_,_,hk⟩:=h.y.2 _ _ hrow
 have hv:VCell x.2.2.1.1 x.2.2.1.2∧VCell x.2.2.2.1 x.2.2.2.2:=by
  simp only [enR,List.cons.injEq,DV.i.injEq,DV.b.injEq,DV.s.injEq,true_and,and_true] at er
  obtain ⟨_,rfl,rfl,rfl,rfl,rfl,rfl,rfl,e1,e2,e3,e4⟩:=er
  rw [e1,e2,e3,e4]
  rcases hk with ⟨_,_,c⟩ | ⟨_,_,_,c⟩ | ⟨q,_⟩
  ·exact ⟨c.2.2.2.2.1,c.2.2.2.2.2⟩
  ·exact ⟨c.2.2.2.2.1,c.2.2.2.2.2⟩
  ·rcases q with q|q|q<;>cases q
 exact ⟨ci_row hy hi 0 (by decide) rfl,ci_row hy hi 6 (by decide) rfl,ci_row hy hi 7 (by decide) rfl,cb_row hy hi 8 (by decide) rfl,cs_row hy hi 9 (by decide) rfl,cb_row hy hi 10 (by decide) rfl,cs_row hy hi 11 (by decide) rfl,hv.1,hv.2⟩
theorem sub_ok {x:Nat×Wr} {e:Nat→Nm} (h:Ent (vb b g z) e x) (hcs:pcl b s=x.2.2.2):∀ y∈[((.sb (.v (20+2*s)):AC),(.sb (e 110):AC)),(.ss (.v (21+2*s)), .ss (e 111))],∀ φ v,VC (vb b g z) φ y.1 v→VC (vb b g z) φ y.2 v:=by
 intro y hy φ v hv
 have hy':y=((.sb (.v (20+2*s)):AC),(.sb (e 110):AC))∨y=(.ss (.v (21+2*s)), .ss (e 111)):=by simpa using hy
 rcases hy' with rfl|rfl
 ·show v= .bool ((vb b g z).b (e 110))
  rw [h.c10,← hcs];exact hv
 ·show v= .string ((vb b g z).s (e 111))
  rw [h.c11,← hcs];exact hv
theorem del_at {A B:Pnd} {x:Nat×Wr} {t:Nm} (hq: (b 1).d=qL (A++x::B)) (ht: (vb b g z).i t=(A.length:Int)): (vb b g z).d (.f2 1404 (.v 1) t)=qL (A++B)∧(b 1).d.eraseIdx ((vb b g z).i t).toNat=(b 1).d.eraseIdx A.length:=by
 refine ⟨?_,by rw [ht];rfl⟩
 rw [(vb_std b g z).del,ht]
 show (b 1).d.eraseIdx ((A.length:Int)).toNat=_
 rw [Int.toNat_natCast,hq,qL_del]
theorem cell_is {A B:Pnd} {x:Nat×Wr} (h:JH d50 d51 n a m v K (A++x::B) b) (hB:∀ y∈B,y.2.1≠x.2.1):x.2.1<4∧a.testBit x.2.1=true∧m.testBit x.2.1=false∧pcl b x.2.1=x.2.2.2:=by
 have hxs:=h.ks.sl x.2 (List.mem_map.2 ⟨x,by simp,rfl⟩)
 have hms:=((ok_at h.ks.lt h.lt.1 h.lt.2 hxs.1 h.ok).1 hxs.2).1
 obtain ⟨c,c1,c2⟩:=h.ch
 rw [show wrs (A++x::B)=wrs A++[x.2]++wrs B by simp [wrs]] at c1
 obtain ⟨c',k1,k2,k3⟩:=c1.strike fun y hy=>by
  obtain ⟨z,hz,rfl⟩:=List.mem_map.1 hy
  exact hB z hz
 exact ⟨hxs.1,hxs.2,hms,by rw [c2 _ hxs.1 hms,k3]⟩
theorem at_is {A B:Pnd} {x:Nat×Wr} (h:JH d50 d51 n a m v K (A++x::B) b):IsAt (b 1).d (x.1:Int) (A.length:Int):=by
 have hlen:=h.len
 have hK:=h.k200
 have hla:=h.la
 refine ⟨by omega,by rw [Int.toNat_natCast,h.q];exact qL_get,(b 2).i, ?_⟩
 rw [h.q]
 exact h.qa.asc (by omega) (by omega)
theorem pset_of {A B:Pnd} {x:Nat×Wr} {k2:Nat} (h:JH d50 d51 n a m v K (A++x::B) b) (hk:KSet k2 (wrs (A++B))):PSet (b 0).d (qL (A++B)) k2:=by
 have hql:=h.ql
 have n30:=h.n30
 refine pset h.y (fun y hy=>h.rw y (by rcases List.mem_append.1 hy with hy|hy<;>simp [hy])) ?_ hk
 rw [List.length_append] at hql ⊢
 rw [List.length_cons] at hql
 omega
theorem pset_all (h:JH d50 d51 n a m v K L b):PSet (b 0).d (b 1).d a:=by
 rw [h.q]
 have hql:=h.ql
 have n30:=h.n30
 exact pset h.y h.rw (by omega) h.ks
theorem fgC_ok {A B:Pnd} {x:Nat×Wr} {k2:Nat} (h:JH d50 d51 n a m v K (A++x::B) b) (hB:∀ y∈B,y.2.1≠x.2.1) (E:Ent (vb b g z) (tJ x.2.1) x) (eA: (vb b g z).i (tA x.2.1)=(A.length:Int)) (hk:KSet k2 (wrs (A++B))):∀ f∈fgC x.2.1 a k2,f.holds QR (vb b g z):=by
 have hlen:=h.len
 have hK:=h.k200
 have hla:=h.la
 have hql:=h.ql
 have n30:=h.n30
 obtain ⟨x1,xm⟩:=h.qa.2 x (by simp)
 have hq: (((b 1).d.length:Nat):Int)=(A++x::B).length:=by rw [h.q,qL_len]
 have e2: (A++x::B).length=A.length+B.length+1:=by simp;omega
 have h1: (1:Int)≤(x.1:Int)∧(x.1:Int)≤900:=by omega
 have hset:=pset_of h hk
 rw [← (del_at (g:=g) (z:=z) h.q eA).1] at hset
 exact rL 1 1 900 (by omega) (by omega) (facts_cons (rgl E.c0 h1) (facts_cons (df E.c0 (show (-900:Int)≤(x.1:Int)-(b 2).i∧(x.1:Int)-(b 2).i≤0 by omega)) (facts_cons (df E.c0 (show (-900:Int)≤(x.1:Int)-(((b 0).d.length:Nat):Int)∧(x.1:Int)-(((b 0).d.length:Nat):Int)≤0 by omega))
  (facts_cons (show VCell ((vb b g z).b (tJ x.2.1 108)) ((vb b g z).s (tJ x.2.1 109)) from by rw [E.c8,E.c9];exact E.okb) (facts_cons (show VCell ((vb b g z).b (tJ x.2.1 110)) ((vb b g z).s (tJ x.2.1 111)) from by rw [E.c10,E.c11];exact E.oka)
  (facts_cons (rgl eA (show (0:Int)≤(A.length:Int)∧(A.length:Int)≤900 by omega)) (facts_cons (df eA (show (-900:Int)≤(A.length:Int)-(((b 1).d.length:Nat):Int)∧(A.length:Int)-(((b 1).d.length:Nat):Int)≤-1 by omega))
  (facts_cons (show IsAt (b 1).d ((vb b g z).i (tJ x.2.1 100)) ((vb b g z).i (tA x.2.1)) from by rw [E.c0,eA];exact at_is h) (facts_cons (show PSet (b 0).d (b 1).d ((a:Int)).toNat from pset_all h) (facts_cons (show PSet (b 0).d ((vb b g z).d (tG x.2.1)) ((k2:Int)).toNat from hset) facts_nil))))))))))
theorem fgD_ok {A:Pnd} {x:Nat×Wr} {k2:Nat} (h:JH d50 d51 n a m v K (A++[x]) b) (E:Ent (vb b g z) tE x) (eT: (vb b g z).i tT=(x.1:Int)) (eQ: (vb b g z).i tQ=(A.length:Int)) (hk:KSet k2 (wrs (A++[]))):∀ f∈fgD x.2.1 k2,f.holds QR (vb b g z):=by
 have hlen:=h.len
 have hK:=h.k200
 have hla:=h.la
 have hql:=h.ql
 have n30:=h.n30
 obtain ⟨x1,xm⟩:=h.qa.2 x (by simp)
 have hq: (vb b g z).i (.f1 5 (.v 1))=(A.length+1:Nat):=by
  show (((b 1).d.length:Nat):Int)=_
  rw [h.q,qL_len,List.length_append];rfl
 have e2: (A++[x]).length=A.length+1:=by simp
 have h1: (1:Int)≤(x.1:Int)∧(x.1:Int)≤900:=by omega
 have h3: (-900:Int)≤(x.1:Int)-(((b 0).d.length:Nat):Int)∧(x.1:Int)-(((b 0).d.length:Nat):Int)≤0:=by omega
 have h4: (-900:Int)≤(x.1:Int)-(b 2).i∧(x.1:Int)-(b 2).i≤0:=by omega
 have hset:=pset_of h hk
 rw [← (del_at (g:=g) (z:=z) (B:=[]) h.q eQ).1] at hset
 exact facts_cons (rgl hq (show (1:Int)≤((A.length+1:Nat):Int)∧((A.length+1:Nat):Int)≤900 by omega)) (facts_cons (rgl eT h1) (facts_cons (df eT h3) (facts_cons (df eT h4) (facts_cons (rgl E.c0 h1) (facts_cons (d0 E.c0 eT) (facts_cons (df E.c0 h4) (facts_cons (df E.c0 h3) (facts_cons (rgl E.c6 ⟨Int.le_refl 0,Int.le_refl 0⟩) (facts_cons (rgl E.c7 ⟨Int.le_refl _,Int.le_refl _⟩)
  (facts_cons (show VCell ((vb b g z).b (tE 108)) ((vb b g z).s (tE 109)) from by rw [E.c8,E.c9];exact E.okb) (facts_cons (show VCell ((vb b g z).b (tE 110)) ((vb b g z).s (tE 111)) from by rw [E.c10,E.c11];exact E.oka)
  (facts_cons (show IsAt (b 1).d ((vb b g z).i (tE 100)) ((vb b g z).i tQ) from by rw [E.c0,eQ];exact at_is h) (facts_cons (show PSet (b 0).d ((vb b g z).d tD) ((k2:Int)).toNat from hset) facts_nil)))))))))))))
theorem nb_rcl (g:Nm→Value) (z:Nat→Option Obj) (b:Nat→MV):∀ s,s<4→(rcl s).ok=true∧(nb b (rcl s) 0).d=(b 0).d++[enR (((b 0).d.length:Int)+1) 2 1 (b 2).i (b 3).i ((vb b g z).i (tJ s 100)) 0 s ((vb b g z).b (tJ s 110)) ((vb b g z).s (tJ s 111)) ((vb b g z).b (tJ s 108)) ((vb b g z).s (tJ s 109))]∧(nb b (rcl s) 1).d=(b 1).d.eraseIdx ((vb b g z).i (tA s)).toNat
  ∧(nb b (rcl s) 2).i=((b 0).d.length:Int)+1∧(nb b (rcl s) 3).i=((b 0).d.length:Int)+1∧(nb b (rcl s) 4).i=(b 4).i∧(nb b (rcl s) 5).i=(b 5).i∧(nb b (rcl s) 9).d=(b 9).d∧(nb b (rcl s) 50).d=(b 50).d∧(nb b (rcl s) 52).d=(b 52).d∧(nb b (rcl s) 8).i=(b 8).i∧(nb b (rcl s) 12).i=(b 12).i+1∧(nb b (rcl s) 7).i=(b 7).i
 |0,_=>⟨by decide,rfl,rfl,rfl,rfl,rfl,rfl,rfl,rfl,rfl,rfl,rfl,rfl⟩
 |1,_=>⟨by decide,rfl,rfl,rfl,rfl,rfl,rfl,rfl,rfl,rfl,rfl,rfl,rfl⟩
 |2,_=>⟨by decide,rfl,rfl,rfl,rfl,rfl,rfl,rfl,rfl,rfl,rfl,rfl,rfl⟩
 |3,_=>⟨by decide,rfl,rfl,rfl,rfl,rfl,rfl,rfl,rfl,rfl,rfl,rfl,rfl⟩
 |i+4,h=>absurd h (by omega)
theorem nc_rcl (g:Nm→Value) (z:Nat→Option Obj) (b:Nat→MV):∀ s,s<4→∀ i,i<4→pcl (nb b (rcl s)) i=if i=s then ((vb b g z).b (tJ s 108),(vb b g z).s (tJ s 109)) else pcl b i
 |0,_,0,_=>rfl
 |0,_,1,_=>rfl
 |0,_,2,_=>rfl
 |0,_,3,_=>rfl
 |1,_,0,_=>rfl
 |1,_,1,_=>rfl
 |1,_,2,_=>rfl
 |1,_,3,_=>rfl
 |2,_,0,_=>rfl
 |2,_,1,_=>rfl
 |2,_,2,_=>rfl
 |2,_,3,_=>rfl
 |3,_,0,_=>rfl
 |3,_,1,_=>rfl
 |3,_,2,_=>rfl
 |3,_,3,_=>rfl
 | _,_,i+4,h=>absurd h (by omega)
 |s+4,h,_,_=>absurd h (by omega)
theorem nb_rd (g:Nm→Value) (z:Nat→Option Obj) (b:Nat→MV):∀ s,s<4→(rd s).ok=true∧(nb b (rd s) 0).d=(b 0).d++[enR (((b 0).d.length:Int)+1) 2 1 (b 2).i (b 3).i ((vb b g z).i (tE 100)) 0 s ((vb b g z).b (tE 110)) ((vb b g z).s (tE 111)) ((vb b g z).b (tE 108)) ((vb b g z).s (tE 109))]∧(nb b (rd s) 1).d=(b 1).d.eraseIdx ((vb b g z).i (tQ)).toNat
  ∧(nb b (rd s) 2).i=((b 0).d.length:Int)+1∧(nb b (rd s) 3).i=((b 0).d.length:Int)+1∧(nb b (rd s) 4).i=(b 4).i∧(nb b (rd s) 5).i=(b 5).i∧(nb b (rd s) 9).d=(b 9).d∧(nb b (rd s) 50).d=(b 50).d∧(nb b (rd s) 52).d=(b 52).d∧(nb b (rd s) 8).i=(b 8).i∧(nb b (rd s) 7).i=(b 7).i+1∧(nb b (rd s) 12).i=(b 12).i
 |0,_=>⟨by decide,rfl,rfl,rfl,rfl,rfl,rfl,rfl,rfl,rfl,rfl,rfl,rfl⟩
 |1,_=>⟨by decide,rfl,rfl,rfl,rfl,rfl,rfl,rfl,rfl,rfl,rfl,rfl,rfl⟩
 |2,_=>⟨by decide,rfl,rfl,rfl,rfl,rfl,rfl,rfl,rfl,rfl,rfl,rfl,rfl⟩
 |3,_=>⟨by decide,rfl,rfl,rfl,rfl,rfl,rfl,rfl,rfl,rfl,rfl,rfl,rfl⟩
 |i+4,h=>absurd h (by omega)
theorem nc_rd (g:Nm→Value) (z:Nat→Option Obj) (b:Nat→MV):∀ s,s<4→∀ i,i<4→pcl (nb b (rd s)) i=if i=s then ((vb b g z).b (tE 108),(vb b g z).s (tE 109)) else pcl b i
 |0,_,0,_=>rfl
 |0,_,1,_=>rfl
 |0,_,2,_=>rfl
 |0,_,3,_=>rfl
 |1,_,0,_=>rfl
 |1,_,1,_=>rfl
 |1,_,2,_=>rfl
 |1,_,3,_=>rfl
 |2,_,0,_=>rfl
 |2,_,1,_=>rfl
 |2,_,2,_=>rfl
 |2,_,3,_=>rfl
 |3,_,0,_=>rfl
 |3,_,1,_=>rfl
 |3,_,2,_=>rfl
 |3,_,3,_=>rfl
 | _,_,i+4,h=>absurd h (by omega)
 |s+4,h,_,_=>absurd h (by omega)
theorem nb_rr (g:Nm→Value) (z:Nat→Option Obj) (b:Nat→MV):∀ s,s<4→(rr s).ok=true∧(nb b (rr s) 0).d=(b 0).d++[enR (((b 0).d.length:Int)+1) 1 2 (b 5).i (b 3).i 0 0 s (pcl b s).1 (pcl b s).2 true mineB]∧(nb b (rr s) 9).d=(b 9).d++[[DV.i (((b 0).d.length:Int)+1)]]∧(nb b (rr s) 1).d=(b 1).d∧(nb b (rr s) 2).i=(b 2).i∧(nb b (rr s) 3).i=((b 0).d.length:Int)+1∧(nb b (rr s) 4).i=(b 4).i
  ∧(nb b (rr s) 5).i=((b 0).d.length:Int)+1∧(nb b (rr s) 50).d=(b 50).d∧(nb b (rr s) 52).d=(b 52).d∧(nb b (rr s) 8).i=(b 8).i∧(nb b (rr s) 7).i=(b 7).i
 |0,_=>⟨by decide,rfl,rfl,rfl,rfl,rfl,rfl,rfl,rfl,rfl,rfl,rfl⟩
 |1,_=>⟨by decide,rfl,rfl,rfl,rfl,rfl,rfl,rfl,rfl,rfl,rfl,rfl⟩
 |2,_=>⟨by decide,rfl,rfl,rfl,rfl,rfl,rfl,rfl,rfl,rfl,rfl,rfl⟩
 |3,_=>⟨by decide,rfl,rfl,rfl,rfl,rfl,rfl,rfl,rfl,rfl,rfl,rfl⟩
 |i+4,h=>absurd h (by omega)
theorem nc_rr (b:Nat→MV):∀ s,s<4→∀ i,i<4→pcl (nb b (rr s)) i=if i=s then (true,mineB) else pcl b i
 |0,_,0,_=>rfl
 |0,_,1,_=>rfl
 |0,_,2,_=>rfl
 |0,_,3,_=>rfl
 |1,_,0,_=>rfl
 |1,_,1,_=>rfl
 |1,_,2,_=>rfl
 |1,_,3,_=>rfl
 |2,_,0,_=>rfl
 |2,_,1,_=>rfl
 |2,_,2,_=>rfl
 |2,_,3,_=>rfl
 |3,_,0,_=>rfl
 |3,_,1,_=>rfl
 |3,_,2,_=>rfl
 |3,_,3,_=>rfl
 | _,_,i+4,h=>absurd h (by omega)
 |s+4,h,_,_=>absurd h (by omega)
theorem k2m_sub {s t:Nat} (h: (k2m a s).testBit t=true) (hs:a.testBit s=true):a.testBit t=true:=by
 have e: (k2m a s).testBit t=(a.testBit t ^^ decide (s=t)):=by
  show (a ^^^ 2 ^ s).testBit t=_
  rw [Nat.testBit_xor,Nat.testBit_two_pow]
 rw [e] at h
 by_cases e2:s=t
 ·rw [← e2];exact hs
 ·rw [decide_eq_false e2,Bool.xor_false] at h;exact h
theorem ks_split {A B:Pnd} {x:Nat×Wr} (h:JH d50 d51 n a m v K (A++x::B) b):KSet a (wrs A++[x.2]++wrs B):=by
 have:=h.ks
 rwa [show wrs (A++x::B)=wrs A++[x.2]++wrs B by simp [wrs]] at this
theorem ks_next {A B:Pnd} {x:Nat×Wr} (h:JH d50 d51 n a m v K (A++x::B) b) (hB:∀ y∈B,y.2.1≠x.2.1): ((∃ y∈A,y.2.1=x.2.1)∧KSet a (wrs (A++B)))∨KSet (k2m a x.2.1) (wrs (A++B)):=by
 have hk:=ks_split h
 rw [wrs_app]
 by_cases hm:∃ y∈A,y.2.1=x.2.1
 ·obtain ⟨y,hy,e⟩:=hm
  exact .inl ⟨⟨y,hy,e⟩,hk.strikeM (List.mem_map.2 ⟨y,hy,rfl⟩) e⟩
 ·refine .inr (hk.strikeD (fun y hy e=> ?_) fun y hy=> ?_)
  ·obtain ⟨u,hu,rfl⟩:=List.mem_map.1 hy
   exact hm ⟨u,hu,e⟩
  ·obtain ⟨u,hu,rfl⟩:=List.mem_map.1 hy
   exact hB u hu
abbrev IJ:=Nat×Nat×Pnd×(Nat→MV)
def IInv (d50 d51:List (List DV)) (n a0 m K:Nat) (b0:Nat→MV) (j:IJ):Prop:=JH d50 d51 n j.1 m j.2.1 K j.2.2.1 j.2.2.2∧(j.2.2.2 7).i=(b0 7).i∧(j.2.2.2 8).i=(b0 8).i∧(j.2.2.2 52).d=(b0 52).d∧∀ t,j.1.testBit t=true→a0.testBit t=true
theorem inner {a0:Nat} {b0:Nat→MV} (hs:s<4):Tri Tryz.prog N (.block 2 (.loop inB)) (fun ac w'=>∃ j:IJ,(IInv d50 d51 n a0 m K b0 j∧0≤(j.2.2.2 12).i∧(j.2.2.2 12).i+j.2.2.1.length≤n)∧At w0 N (vb j.2.2.2 g z) (shJ j.1 m j.2.1 s) ac w')
  fun e ac w'=>e= .normal∧∃ j:IJ,(IInv d50 d51 n a0 m K b0 j∧j.1.testBit s=false)∧At w0 N (vb j.2.2.2 g z) (shX j.1 m j.2.1 s) ac w':=by
 refine Tri.block ?_
 refine (Tri.loop (Post:=fun e ac w'=>e= .exit 2∧∃ j:IJ,(IInv d50 d51 n a0 m K b0 j∧j.1.testBit s=false)∧At w0 N (vb j.2.2.2 g z) (shX j.1 m j.2.1 s) ac w') (fun j:IJ=>j.2.2.1.length) (fun j ac w'=>(IInv d50 d51 n a0 m K b0 j∧0≤(j.2.2.2 12).i∧(j.2.2.2 12).i+j.2.2.1.length≤n)∧At w0 N (vb j.2.2.2 g z) (shJ j.1 m j.2.1 s) ac w') fun j=>Tri.imp fun hj=> ?_).post fun e a w h=> .inl ⟨.inr h.1,rfl,h.2⟩
 obtain ⟨a,v,L,b⟩:=j
 obtain ⟨⟨h,i7,i8,i52,isub⟩,c0,c1⟩:=hj
 have h:JH d50 d51 n a m v K L b:=h
 have c0:0≤(b 12).i:=c0
 have c1: (b 12).i+L.length≤n:=c1
 have i7: (b 7).i=(b0 7).i:=i7
 have i8: (b 8).i=(b0 8).i:=i8
 have i52: (b 52).d=(b0 52).d:=i52
 have isub:∀ t,a.testBit t=true→a0.testBit t=true:=isub
 have n30:=h.n30
 have hfl:=h.fl
 have hf: (((b 50).d.length:Nat):Int)=n:=by rw [h.f,hfl]
 have n1:=h.n1
 have fi:∀ f∈fI,f.holds QR (vb b g z):=rI 12 0 30 (by omega) (by omega) (rL 50 1 30 (by omega) (by omega) (dL 12 50 (.negSucc 29) 0 (by omega) (by omega) facts_nil))
 cases hb:a.testBit s with
 |true=>
  obtain ⟨y,hy,e⟩:=h.ks.al s hs hb
  obtain ⟨x0,hx0,rfl⟩:=List.mem_map.1 hy
  obtain ⟨A,x,B,rfl,hp,hB⟩:=last_of (p:=fun x:Nat×Wr=>x.2.1=s) ⟨x0,hx0,e⟩
  have hp:x.2.1=s:=hp
  subst hp
  have hK: (vb b g z).i (tK x.2.1)=(x.1:Int)-1:=by
   rw [show tK x.2.1= .f2 2005 (.f2 2006 (.v 0) (.v 1)) (.num (x.2.1:Int)) from rfl,(vb_pp b g z).lst,(vb_std b g z).num]
   show lastM (b 0).d (b 1).d _=_
   rw [h.q]
   exact lastM_at h.rw hB
  have E:Ent (vb b g z) (tJ x.2.1) x:=ent_at h (by simp) hK
  have eA: (vb b g z).i (tA x.2.1)=(A.length:Int):=by
   rw [show tA x.2.1= .f2 2007 (.v 1) (tJ x.2.1 100) from rfl,(vb_pp b g z).idx,E.c0]
   show idxD (b 1).d _=_
   rw [h.q]
   exact idxD_at h.qa.1
  obtain ⟨_,_,_,hcs⟩:=cell_is h hB
  have hr:=RUE h.ks.lt h.lt.1 h.lt.2 hs h.ok hb
  rw [Bool.and_eq_true,Bool.and_eq_true] at hr
  obtain ⟨⟨r0,r1⟩,_⟩:=hr
  unfold runCm at r0
  unfold runCd at r1
  obtain ⟨hok,e0,e1,e2,e3,e4,e5,e9,e50,e52,e8,e12,e7⟩:=nb_rcl g z b x.2.1 hs
  have hlen: (A++x::B).length=(A++B).length+1:=by simp;omega
  have nx:∀ {a' v':Nat},KSet a' (wrs (A++B))→okST a' m v'=true→v'<3→(∀ t,a'.testBit t=true→a0.testBit t=true)→IInv d50 d51 n a0 m K b0 (a',v',A++B,nb b (rcl x.2.1))∧0≤(nb b (rcl x.2.1) 12).i∧(nb b (rcl x.2.1) 12).i+(A++B).length≤n:=fun hks hok2 hv' hsub=>by
   refine ⟨⟨h.undo rfl hB E.okb E.oka ?_ ?_ e2 e3 e4 e5 e9 e50 (fun i hi=> ?_) hks hok2 hv',e7.trans i7,e8.trans i8,e52.trans i52,hsub⟩,by rw [e12];omega,by rw [e12];omega⟩
   ·rw [e0,E.c0,E.c8,E.c9,E.c10,E.c11]
   ·rw [e1,(del_at (g:=g) (z:=z) h.q eA).2]
   ·have q:=nc_rcl g z b x.2.1 hs i hi
    rw [E.c8,E.c9] at q
    exact q
  rcases ks_next h hB with ⟨_,hks⟩ |hks
  ·have hf:=facts_app (fgC_ok h hB E eA hks) (facts_app fi (fS_ok h))
   refine ((rX hf r0 hok).pre fun ac w' hat=>At.map hat (subC_ok (sub_ok E hcs))).post fun e ac w' hq=> .inl ⟨hq.1,(a,v,A++B,_), ?_,nx hks h.ok h.lt.2 isub,hq.2⟩
   show (A++B).length<(A++x::B).length
   omega
  ·have hf:=facts_app (fgC_ok h hB E eA hks) (facts_app fi (fS_ok h))
   refine ((rX hf r1 hok).pre fun ac w' hat=>At.map hat (subC_ok (sub_ok E hcs))).post fun e ac w' hq=> .inl ⟨hq.1,(k2m a x.2.1,1,A++B,_), ?_,nx hks ((ok_at h.ks.lt h.lt.1 h.lt.2 hs h.ok).1 hb).2 (by decide) fun t ht=>isub t (k2m_sub ht hb),hq.2⟩
   show (A++B).length<(A++x::B).length
   omega
 |false=>
  have hr:=RUF h.ks.lt h.lt.1 h.lt.2 hs h.ok hb
  have hr:=(bT hr).1
  unfold runSt at hr
  have hid:rp.idEx []=true:=by decide
  have fp:∀ f∈fPS a,f.holds QR (vb b g z):=facts_cons (show PSet (b 0).d (b 1).d ((a:Int)).toNat from pset_all h) facts_nil
  refine (rX ((facts_app fi (facts_app (fS_ok h) fp))) hr (by decide)).post fun e ac w' hq=> .inr ⟨by rw [hq.1];exact fun h=>(nomatch h),hq.1,(a,v,L,b),⟨⟨h,i7,i8,i52,isub⟩,hb⟩, ?_⟩
  have:=hq.2
  rw [nb_all hid] at this
  exact this
structure HD (d50 d51:List (List DV)) (n a m v K:Nat) (L:Pnd) (b:Nat→MV):Prop extends JH d50 d51 n a m v K L b where
 row:RowI d51 b
 kk: (K:Int)≤2*n+1+(b 7).i
 tl:∀ j:Nat,j<4→d51.length+j<(b 7).i→a.testBit j=false
theorem HD.fS (h:HD d50 d51 n a m v K L b):∀ f∈fS,f.holds QR (vb b g z):=fS_ok h.toJH
abbrev QJ:=(Nat×Nat×Nat×Nat×Pnd×(Nat→MV)) ⊕ (Nat×(Nat→MV))
def QAt (d50 d51:List (List DV)) (n:Nat) (w0:World) (N:Nat) (g:Nm→Value) (z:Nat→Option Obj) (j:QJ) (ac:Act) (w':World):Prop:=match j with
 | .inl (a,m,v,K,L,b)=>HD d50 d51 n a m v K L b∧At w0 N (vb b g z) (sh a m v) ac w'
 | .inr (m,b)=>(JO m b∧RowI d51 b)∧At w0 N (vb b g z) (sO m) ac w'
def QMu (d51:List (List DV)) (j:QJ):Nat:=match j with
 | .inl (_,_,_,_,_,b)=>d51.length+4-(b 7).i.toNat
 | .inr (_,b)=>d51.length+4-(b 7).i.toNat
def QEnd (d50 d51:List (List DV)) (n:Nat) (w0:World) (N:Nat) (g:Nm→Value) (z:Nat→Option Obj) (j:QJ) (ac:Act) (w':World):Prop:=match j with
 | .inl (a,m,v,K,L,b)=>(JH d50 d51 n a m v K L b∧a=0∧L=[])∧At w0 N (vb b g z) (shO m v) ac w'
 | .inr (m,b)=>JO m b∧At w0 N (vb b g z) (sOx m) ac w'
theorem ri_all (b:Nat→MV): (∀ j,j≠7→nb b ri j=b j)∧(nb b ri 7).i=(b 7).i+1:=⟨fun j hj=>nb_id (S:=[7]) (by decide) (by simp [hj]),rfl⟩
theorem tmod_lt {x:Int} (h:0≤x):∃ s:Nat,s<4∧x.tmod 4=s:=by
 rcases tmod_cases4 h with e|e|e|e
 ·exact ⟨0,by decide,e⟩
 ·exact ⟨1,by decide,e⟩
 ·exact ⟨2,by decide,e⟩
 ·exact ⟨3,by decide,e⟩
theorem tB4 {x:Int} (hx: (vb b g z).i tB=x): (vb b g z).i (.f2 3 tB (.num 4))=x.tmod 4:=by rw [(vb_std b g z).rem,hx];rfl
theorem round_w (h:HD d50 d51 n a m v K L b) (hlt: (b 7).i<d51.length+4) {x:Int} (hx: (vb b g z).i tB=x) (x0:0≤x) (x1:x≤200) (xt:d51.length≤(b 7).i→x=(b 7).i-d51.length):Tri Tryz.prog N lwB (At w0 N (vb b g z) (sh a m v)) fun e ac w'=>e= .normal∧∃ j,QMu d51 j<d51.length+4-(b 7).i.toNat∧QAt d50 d51 n w0 N g z j ac w':=by
 obtain ⟨s,hs,hm⟩:=tmod_lt x0
 have hr:=RUN h.ks.lt h.lt.1 h.lt.2 hs h.ok
 unfold runEn at hr
 have fw:∀ f∈fWb s,f.holds QR (vb b g z):=facts_cons (rgl hx ⟨x0,x1⟩) (facts_cons (rgl (tB4 hx) (show (s:Int)≤x.tmod 4∧x.tmod 4≤s by omega)) facts_nil)
 have hcut1:cutA 2 lwB=some (cutL 2 lwB, .seq (.block (nat_lit 1) rdX) rdI):=by rw [← rd1_eq];exact cutB
 have hcut2:cutA 4 rdX=some (cutL 4 rdX, .seq (.seq inRi (.block (nat_lit 2) (.loop inB))) rd3):=by rw [← rd2_eq];exact cutX
 have hid:re.idEx [12]=true:=by decide
 have ej:∀ j,j≠12→nb b re j=b j:=fun j hj=>nb_id hid (by simp [hj])
 have hJ:JH d50 d51 n a m v K L (nb b re):=h.toJH.congr (Nat.le_refl _) h.k200 fun j _ _ h12 _=>ej j h12
 have hk2:=h.kk
 have n30:=h.n30
 have hl40:=h.row.l40
 have hi0:=h.row.i0
 have hi1:=h.row.i1
 refine Tri.two_loop (codeM _ _) (envR_ok (facts_app fw (fIn_ok h.row hlt))) hcut1 hcut2 hr (ren_nb (by decide)) (Mid1:=fun ac w'=>∃ j:IJ,(IInv d50 d51 n a m K b j∧j.1.testBit s=false)∧At w0 N (vb j.2.2.2 g z) (shX j.1 m j.2.1 s) ac w')
  (Mid2:=fun ac w'=>∃ j:IJ,(JH d50 d51 n j.1 (m|||2 ^ s) j.2.1 (K+1) j.2.2.1 j.2.2.2∧(j.2.2.2 7).i=(b 7).i∧(j.2.2.2 8).i=(b 8).i∧(j.2.2.2 52).d=(b 52).d∧(∀ t,j.1.testBit t=true→a.testBit t=true)∧j.1.testBit s=false)∧At w0 N (vb j.2.2.2 g z) (sh j.1 (m|||2 ^ s) j.2.1) ac w') ?_ ?_ ?_
 ·exact (inner hs).pre fun ac w' hat=>⟨(a,v,L,nb b re),⟨⟨hJ,(by show (nb b re 7).i=_;rw [ej 7 (by decide)]),(by show (nb b re 8).i=_;rw [ej 8 (by decide)]),(by show (nb b re 52).d=_;rw [ej 52 (by decide)]),fun t ht=>ht⟩,(by show (0:Int)≤0;decide),(by show (0:Int)+L.length≤n;have:=h.ql;omega)⟩,hat⟩
 ·refine Tri.ex fun j=>Tri.imp fun hj=> ?_
  obtain ⟨a',v',L',b'⟩:=j
  obtain ⟨⟨hj,i7,i8,i52,isub⟩,hf⟩:=hj
  have hj:JH d50 d51 n a' m v' K L' b':=hj
  have hf:a'.testBit s=false:=hf
  have hr2:=RUF hj.ks.lt hj.lt.1 hj.lt.2 hs hj.ok hf
  have hr2:=(bT hr2).2
  unfold runRe at hr2
  obtain ⟨hok,e0,e9,e1,e2,e3,e4,e5,e50,e52,e8,e7⟩:=nb_rr g z b' s hs
  exact (rX (fS_ok hj) hr2 hok).post fun e ac w' hq=>⟨hq.1,(a',vW m v' s,L',nb b' (rr s)),⟨hj.mine hs hf (by omega) e0 e9 e1 e2 e3 e4 e5 e50 (nc_rr b' s hs),e7.trans i7,e8.trans i8,e52.trans i52,isub,hf⟩,hq.2⟩
 ·refine Tri.ex fun j=>Tri.imp fun hj=> ?_
  obtain ⟨a',v',L',b'⟩:=j
  obtain ⟨hj,i7,i8,i52,isub,hf⟩:=hj
  have hj:JH d50 d51 n a' (m|||2 ^ s) v' (K+1) L' b':=hj
  have i7: (b' 7).i=(b 7).i:=i7
  have hrow:RowI d51 b':=h.row.congr i52 i8 (by rw [i7];exact hi0) (by rw [i7];exact hi1)
  have hr3:=RUI hj.ks.lt hj.lt.1 hj.lt.2 hj.ok
  unfold runIn at hr3
  obtain ⟨q1,q2⟩:=ri_all b'
  refine (rX ((fIn_ok hrow (by rw [i7];exact hlt))) hr3 (by decide)).post fun e ac w' hq=>⟨hq.1, .inl (a',m|||2 ^ s,v',K+1,L',nb b' ri), ?_,⟨hj.congr (Nat.le_refl _) hj.k200 fun j h7 _ _ _=>q1 j h7,hrow.congr (by rw [q1 52 (by decide)]) (by rw [q1 8 (by decide)]) (by rw [q2];omega) (by rw [q2];omega),by rw [q2];omega,fun t ht hti=> ?_⟩,hq.2⟩
  ·show d51.length+4-(nb b' ri 7).i.toNat<d51.length+4-(b 7).i.toNat
   rw [q2];omega
  ·rw [q2] at hti
   by_cases hlt2:d51.length+t<(b 7).i
   ·cases hb:a'.testBit t with
    |false=>rfl
    |true=>
     have:=h.tl t ht hlt2
     rw [isub t hb] at this
     cases this
   ·have e1:x=t:=by rw [xt (by omega)];omega
    have e2:s=t:=by
     rw [e1] at hm
     have:Int.tmod (t:Int) 4=((t % 4:Nat):Int):=rfl
     omega
    rw [← e2];exact hf
theorem fSb_ok {x:Int} (hx: (vb b g z).i tB=x) (x1:200<x) (x2:x≤255):∀ f∈fSb,f.holds QR (vb b g z):=by
 obtain ⟨s,hs,hm⟩:=tmod_lt (x:=x) (by omega)
 exact facts_cons (rgl hx (show (201:Int)≤x∧x≤(255:Int) by omega)) (facts_cons (rgl (tB4 hx) (show (0:Int)≤x.tmod 4∧x.tmod 4≤3 by omega)) facts_nil)
theorem fQ0_ok (h:JH d50 d51 n a m v K [] b):∀ f∈fQ0,f.holds QR (vb b g z):=by
 have hq: (((b 1).d.length:Nat):Int)=0:=by rw [h.q];rfl
 exact rL 1 0 0 (by omega) (by omega) facts_nil
theorem nil_a (h:KSet a (wrs [])):a=0:=KSet.nil h
theorem nc_rg (b:Nat→MV): (∀ i,i<4→pcl (nb b rg) i=pcl b i)∧(nb b rg 3).i=(b 3).i∧(nb b rg 7).i=(b 7).i+1∧(nb b rg 8).i=(b 8).i∧(nb b rg 52).d=(b 52).d:=⟨by4 rfl rfl rfl rfl,rfl,rfl,rfl,rfl⟩
theorem round_s (h:HD d50 d51 n a m v K L b) (hlt: (b 7).i<d51.length+4) {x:Int} (hx: (vb b g z).i tB=x) (x1:200<x) (x2:x≤255) (xt:d51.length≤(b 7).i→x=(b 7).i-d51.length):Tri Tryz.prog N lwB (At w0 N (vb b g z) (sh a m v)) fun e ac w'=>e= .normal∧∃ j,QMu d51 j<d51.length+4-(b 7).i.toNat∧QAt d50 d51 n w0 N g z j ac w':=by
 have hk2:=h.kk
 have hi0:=h.row.i0
 have hi1:=h.row.i1
 have hix: (b 7).i<d51.length:=by
  by_cases hh: (b 7).i<d51.length
  ·exact hh
  ·have:=xt (by omega);omega
 rcases List.eq_nil_or_concat L with rfl| ⟨A,y,rfl⟩
 ·have ha:=nil_a h.ks
  subst ha
  have hr:=RUZ h.lt.1 h.lt.2 h.ok
  have hr:=(bT (bT hr).1).1
  unfold runFi at hr
  obtain ⟨q1,q2,q3,q4,q5⟩:=nc_rg b
  refine (rX ((facts_app (fQ0_ok h.toJH) (facts_app (fSb_ok hx x1 x2) (facts_app (fIn_ok h.row hlt) h.fS)))) hr (by decide)).post fun e ac w' hq=>⟨hq.1, .inr (m,nb b rg), ?_,⟨h.toJH.over q2 q1,h.row.congr q5 q4 (by rw [q3];omega) (by rw [q3];omega)⟩,hq.2⟩
  show d51.length+4-(nb b rg 7).i.toNat<d51.length+4-(b 7).i.toNat
  rw [q3];omega
 ·rw [List.concat_eq_append] at h
  have hB:∀ z∈([]:Pnd),z.2.1≠y.2.1:=fun z hz=>nomatch hz
  obtain ⟨hs,hb,_,hcs⟩:=cell_is h.toJH hB
  have hq0: (b 1).d=qL (A++[y]):=h.q
  have eQ: (vb b g z).i tQ=(A.length:Int):=by
   show (vb b g z).i (.f2 1000 (.f1 5 (.v 1)) (.num (-1)))=_
   show (((b 1).d.length:Nat):Int)+ -1=_
   rw [hq0,qL_len,List.length_append];simp;omega
  have eT: (vb b g z).i tT=(y.1:Int):=by
   have h1: ((vb b g z).d (.v 1))[A.length]? =some [DV.i (y.1:Int)]:=(congrArg (fun x:List (List DV)=>x[A.length]?) hq0).trans qL_get
   exact ci_row h1 eQ 0 (by decide) rfl
  have eU: (vb b g z).i tU=(y.1:Int)-1:=by
   show (vb b g z).i (.f2 1000 tT (.num (-1)))=_
   rw [(vb_std b g z).ex,eT,(vb_std b g z).num];rfl
  have E:Ent (vb b g z) tE y:=ent_at h.toJH (by simp) eU
  have hr:=RUE h.ks.lt h.lt.1 h.lt.2 hs h.ok hb
  rw [Bool.and_eq_true,Bool.and_eq_true] at hr
  obtain ⟨_,hr⟩:=hr
  rw [Bool.and_eq_true] at hr
  obtain ⟨r0,r1⟩:=hr
  unfold runDm at r0
  unfold runDd at r1
  obtain ⟨hok,e0,e1,e2,e3,e4,e5,e9,e50,e52,e8,e7,e12⟩:=nb_rd g z b y.2.1 hs
  have nx:∀ {a' v':Nat},KSet a' (wrs (A++[]))→okST a' m v'=true→v'<3→(∀ t,a'.testBit t=true→a.testBit t=true)→HD d50 d51 n a' m v' K (A++[]) (nb b (rd y.2.1)):=fun hks hok2 hv' hsub=>by
   refine ⟨h.toJH.undo rfl hB E.okb E.oka ?_ ?_ e2 e3 e4 e5 e9 e50 (fun i hi=> ?_) hks hok2 hv',h.row.congr e52 e8 (by rw [e7];omega) (by rw [e7];omega),by rw [e7];omega,fun t ht hti=> ?_⟩
   ·rw [e0,E.c0,E.c8,E.c9,E.c10,E.c11]
   ·rw [e1,(del_at (g:=g) (z:=z) (B:=[]) hq0 eQ).2]
   ·have q:=nc_rd g z b y.2.1 hs i hi
    rw [E.c8,E.c9] at q
    exact q
   ·rw [e7] at hti;omega
  have hmu:d51.length+4-(nb b (rd y.2.1) 7).i.toNat<d51.length+4-(b 7).i.toNat:=by rw [e7];omega
  rcases ks_next h.toJH hB with ⟨_,hks⟩ |hks
  ·have hf:=facts_app (fgD_ok h.toJH E eT eQ hks) (facts_app (fSb_ok hx x1 x2) (facts_app (fIn_ok h.row hlt) h.fS))
   exact ((rX hf r0 hok).pre fun ac w' hat=>At.map hat (subC_ok (sub_ok E hcs))).post fun e ac w' hq=>⟨hq.1, .inl (a,m,v,K,A++[],_),hmu,nx hks h.ok h.lt.2 fun t ht=>ht,hq.2⟩
  ·have hf:=facts_app (fgD_ok h.toJH E eT eQ hks) (facts_app (fSb_ok hx x1 x2) (facts_app (fIn_ok h.row hlt) h.fS))
   exact ((rX hf r1 hok).pre fun ac w' hat=>At.map hat (subC_ok (sub_ok E hcs))).post fun e ac w' hq=>⟨hq.1, .inl (k2m a y.2.1,m,1,K,A++[],_),hmu,nx hks ((ok_at h.ks.lt h.lt.1 h.lt.2 hs h.ok).1 hb).2 (by decide) fun t ht=>k2m_sub ht hb,hq.2⟩
theorem zero_of (h:a<16) (hb:∀ j,j<4→a.testBit j=false):a=0:=Nat.eq_of_testBit_eq fun j=>by
 rw [Nat.zero_testBit]
 by_cases hj:j<4
 ·exact hb j hj
 ·exact Nat.testBit_lt_two_pow (Nat.lt_of_lt_of_le h (Nat.pow_le_pow_right (n:=2) (by decide) (show 4≤j by omega)))
theorem JO.congr {b':Nat→MV} (h:JO m b) (e:∀ j,j≠7→j≠8→j≠12→j≠52→b' j=b j):JO m b':=by
 have ec:∀ i,i<4→pcl b' i=pcl b i:=fun i hi=>by
  unfold pcl
  rw [e (20+2*i) (by omega) (by omega) (by omega) (by omega),e (21+2*i) (by omega) (by omega) (by omega) (by omega)]
 exact ⟨h.lt,by rw [e 3 (by decide) (by decide) (by decide) (by decide)];exact h.pl,fun i hi=>by rw [ec i hi];exact h.ce i hi⟩
theorem loopO:Tri Tryz.prog N (.block 0 (.loop lwB)) (fun ac w'=>∃ j,QAt d50 d51 n w0 N g z j ac w') fun e ac w'=>e= .normal∧∃ j,QEnd d50 d51 n w0 N g z j ac w':=by
 refine Tri.block ?_
 refine (Tri.loop (Post:=fun e ac w'=>e= .exit 0∧∃ j,QEnd d50 d51 n w0 N g z j ac w') (QMu d51) (QAt d50 d51 n w0 N g z) fun j=> ?_).post fun e a w h=> .inl ⟨.inr h.1,rfl,h.2⟩
 rcases j with ⟨a,m,v,K,L,b⟩ | ⟨m,b⟩
 ·refine Tri.imp fun h=> ?_
  have i1:=h.row.i1
  by_cases hlt: (b 7).i<d51.length+4
  ·obtain ⟨x,hx,x0,x1,xt⟩:=byte_of (g:=g) (z:=z) h.row hlt
   by_cases hw:x≤200
   ·exact (round_w h hlt hx x0 hw xt).post fun e ac w' hq=> .inl hq
   ·exact (round_s h hlt hx (by omega) x1 xt).post fun e ac w' hq=> .inl hq
  ·have hge: (b 7).i=d51.length+4:=by omega
   have ha:a=0:=zero_of h.ks.lt fun j hj=>h.tl j hj (by omega)
   subst ha
   have hL:L=[]:=by
    cases L with
    |nil=>rfl
    |cons y T=>
     have:=(h.ks.sl y.2 (List.mem_map.2 ⟨y,List.mem_cons_self,rfl⟩)).2
     rw [Nat.zero_testBit] at this;cases this
   have hr:=RUZ h.lt.1 h.lt.2 h.ok
   have hr:=(bT (bT hr).1).2
   unfold runHo at hr
   have hid:rh.idEx []=true:=by decide
   refine (rX (fOut_ok h.row hge) hr (by decide)).post fun e ac w' hq=> .inr ⟨by rw [hq.1];exact fun h=>(nomatch h),hq.1, .inl (0,m,v,K,L,b),⟨h.toJH,rfl,hL⟩, ?_⟩
   have:=hq.2
   rw [nb_all hid] at this
   exact this
 ·refine Tri.imp fun h=> ?_
  obtain ⟨h,hrow⟩:=h
  have i1:=hrow.i1
  have hr:=RUO h.lt
  have hid:rov.idEx []=true:=by decide
  have fin:∀ {F:List Fc},(∀ f∈F,f.holds QR (vb b g z))→endsX (.ex (nat_lit 0)) rov.nms (sOx m) (aev Tryz.prog (envR F) (tblM F) (nat_lit 12000) lwB (sO m).frame (sO m).hp)=true→Tri Tryz.prog N lwB (At w0 N (vb b g z) (sO m)) fun e ac w'=>(e= .normal∧∃ j,QMu d51 j<QMu d51 (.inr (m,b))∧QAt d50 d51 n w0 N g z j ac w')∨(e≠ .normal∧(e= .exit 0∧∃ j,QEnd d50 d51 n w0 N g z j ac w')):=fun hF hr=>by
   refine (rX hF hr (by decide)).post fun e ac w' hq=> .inr ⟨by rw [hq.1];exact fun h=>(nomatch h),hq.1, .inr (m,b),h, ?_⟩
   have:=hq.2
   rw [nb_all hid] at this
   exact this
  by_cases hlt: (b 7).i<d51.length+4
  ·exact fin (fIn_ok hrow hlt) (bT (bT hr).1).1
  ·exact fin (fOut_ok hrow (by omega)) (bT (bT hr).1).2
theorem loop7o:Tri Tryz.prog N lwF (fun ac w'=>∃ b,JO m b∧At w0 N (vb b g z) (sON m) ac w') fun e ac w'=>e= .exit 4∧∃ b,JO m b∧At w0 N (vb b g z) (sOx m) ac w':=by
 refine Tri.ex fun b=>Tri.imp fun h=> ?_
 have hr:=RUO h.lt
 have hr:=(bT (bT (bT hr).2).2).1
 unfold runOq at hr
 have hid:rq.idEx []=true:=by decide
 refine (rX facts_nil hr (by decide)).post fun e ac w' hq=>⟨hq.1,b,h, ?_⟩
 have:=hq.2
 rw [nb_all hid] at this
 exact this
theorem nc_rk (b:Nat→MV): (∀ i,i<4→pcl (nb b rk) i=pcl b i)∧(nb b rk 3).i=(b 3).i:=⟨by4 rfl rfl rfl rfl,rfl⟩
theorem subM_ok (h:JO m b):∀ y∈subM m,∀ φ v,VC (vb b g z) φ y.1 v→VC (vb b g z) φ y.2 v:=by
 intro y hy φ v hv
 obtain ⟨i,hi,hy⟩:=List.mem_flatMap.1 (show y∈(List.range 4).flatMap _ from hy)
 have hi4:=List.mem_range.1 hi
 have hc:=h.ce i hi4
 simp only [List.mem_cons,List.not_mem_nil,or_false] at hy
 rcases hy with rfl|rfl
 ·have hv':v= .bool (b (20+2*i)).b:=hv
  show v= .bool (m.testBit i)
  rw [hv',show (b (20+2*i)).b=(pcl b i).1 from rfl,hc]
  cases m.testBit i<;>rfl
 ·have hv':v= .string (b (21+2*i)).s:=hv
  rw [show (b (21+2*i)).s=(pcl b i).2 from rfl,hc] at hv'
  cases hb:m.testBit i with
  |true=>rw [hb] at hv';exact ⟨mineB,hv',rfl⟩
  |false=>rw [hb] at hv';exact ⟨⟨#[]⟩,hv',rfl⟩
theorem end_tri (h:JO m b):Tri Tryz.prog N lw5 (At w0 N (vb b g z) (sOx m)) fun e ac w'=>e= .ret∧∃ ρ' s',saysTrue lwRes s'=true∧At w0 N ρ' s' ac w':=by
 have hr:=RUO h.lt
 have hr:=(bT (bT (bT hr).2).2).2
 unfold runEn_ at hr
 have hp:=h.pl
 have fe:∀ f∈fEnd,f.holds QR (vb b g z):=rI 3 1 900 (by omega) (by omega) facts_nil
 exact ((rX (r:={}) fe hr (by decide)).pre fun ac w' hat=>At.map hat (subC_ok (subM_ok h))).post fun e ac w' hq=>⟨hq.1,_,_,saysT,hq.2⟩
theorem rest7:∀ j,Tri Tryz.prog N lw4 (QEnd d50 d51 n w0 N g z j) fun e ac w'=>e= .ret∧∃ ρ' s',saysTrue lwRes s'=true∧At w0 N ρ' s' ac w'
 | .inl (a,m,v,K,L,b)=>Tri.imp fun hj=>by
  obtain ⟨h,rfl,rfl⟩:=hj
  have hr:=RUZ h.lt.1 h.lt.2 h.ok
  obtain ⟨r1,r2⟩:=bT (bT hr).2
  unfold runNj at r1
  unfold runF2 at r2
  rw [lw4_eq]
  refine Tri.seq (Mid:=fun ac w'=>∃ b,JO m b∧At w0 N (vb b g z) (sOx m) ac w') ?_ (Tri.ex fun b=>Tri.imp fun h=>end_tri h)
  refine Tri.seq (Mid:=fun ac w'=>∃ b,(JH d50 d51 n 0 m v K [] b∧(b 12).i=0)∧At w0 N (vb b g z) (shN m v) ac w') ?_ ?_
  ·have hid:rj.idEx [12]=true:=by decide
   exact (rX facts_nil r1 (by decide)).post fun e ac w' hq=> .inl ⟨hq.1,nb b rj,⟨h.congr (Nat.le_refl _) h.k200 fun j _ _ h12 _=>nb_id hid (by simp [h12]),rfl⟩,hq.2⟩
  ·refine (Tri.block (Post:=fun e ac w'=>e= .normal∧∃ b,JO m b∧At w0 N (vb b g z) (sOx m) ac w') ?_).post fun e ac w' h=> .inl h
   refine ((Tri.loop (Post:=fun e ac w'=>e= .exit 4∧∃ b,JO m b∧At w0 N (vb b g z) (sOx m) ac w') (fun t:Bool=>if t then 0 else 1) (fun t ac w'=>if t then ∃ b,JO m b∧At w0 N (vb b g z) (sON m) ac w' else ∃ b,(JH d50 d51 n 0 m v K [] b∧(b 12).i=0)∧At w0 N (vb b g z) (shN m v) ac w') fun t=> ?_).pre fun ac w' h=>⟨false,h⟩).post fun e a w h=> .inl ⟨.inr h.1,rfl,h.2⟩
   cases t with
   |true=>exact (loop7o (m:=m)).post fun e ac w' hq=> .inr ⟨by rw [hq.1];exact fun h=>(nomatch h),hq⟩
   |false=>
    refine Tri.ex fun b=>Tri.imp fun hj=> ?_
    obtain ⟨h,h12⟩:=hj
    have hf: (((b 50).d.length:Nat):Int)=n:=by rw [h.f,h.fl]
    have n1:=h.n1
    have n30:=h.n30
    have f2:∀ f∈fN21,f.holds QR (vb b g z):=rI 12 0 1 (by omega) (by omega) facts_nil
    have f3:∀ f∈fF,f.holds QR (vb b g z):=rL 50 1 30 (by omega) (by omega) facts_nil
    obtain ⟨q1,q2⟩:=nc_rk b
    exact (rX ((facts_app (fQ0_ok h) (facts_app f2 (facts_app f3 (fS_ok h))))) r2 (by decide)).post fun e ac w' hq=> .inl ⟨hq.1,true,by decide,nb b rk,h.over q2 q1,hq.2⟩
 | .inr (m,b)=>Tri.imp fun h=>by
  have hr:=RUO h.lt
  have r1:=(bT (bT hr).2).1
  unfold runOl at r1
  rw [lw4_eq]
  refine Tri.seq (Mid:=fun ac w'=>∃ b,JO m b∧At w0 N (vb b g z) (sOx m) ac w') ?_ (Tri.ex fun b=>Tri.imp fun h=>end_tri h)
  refine Tri.seq (Mid:=fun ac w'=>∃ b,JO m b∧At w0 N (vb b g z) (sON m) ac w') ?_ ?_
  ·have hid:rl.idEx [12]=true:=by decide
   exact (rX facts_nil r1 (by decide)).post fun e ac w' hq=> .inl ⟨hq.1,nb b rl,h.congr fun j _ _ h12 _=>nb_id hid (by simp [h12]),hq.2⟩
  ·refine (Tri.block (Post:=fun e ac w'=>e= .normal∧∃ b,JO m b∧At w0 N (vb b g z) (sOx m) ac w') ?_).post fun e ac w' h=> .inl h
   refine ((Tri.loop (Post:=fun e ac w'=>e= .exit 4∧∃ b,JO m b∧At w0 N (vb b g z) (sOx m) ac w') (fun _:Unit=>0) (fun _ ac w'=>∃ b,JO m b∧At w0 N (vb b g z) (sON m) ac w') fun _=> ?_).pre fun ac w' h=>⟨(),h⟩).post fun e a w h=> .inl ⟨.inr h.1,rfl,h.2⟩
   exact (loop7o (m:=m)).post fun e ac w' hq=> .inr ⟨by rw [hq.1];exact fun h=>(nomatch h),hq⟩
theorem nBgc (b:Nat→MV):∀ i,i<4→pcl (nb b rBg) i=pcl b i:=by4 rfl rfl rfl rfl
theorem start_ok {b1:Nat→MV} (h:JA d50 d51 k H b1) (hl:d50.length≤30):JH d50 d51 d50.length k 0 0 (2*d50.length+1) (pndF 0 H) (nb b1 rBg):=by
 obtain ⟨b,h1,h7,h51,hk,rfl⟩:=h
 obtain ⟨e0,e1,e2,e3,e4,e50,e51⟩:=nab b
 exact h1.begin h7 hl hk e0 e1 e2 e3 e4 rfl rfl e50 fun i hi=>(nBgc _ i hi).trans (nabc b i hi)
theorem rRow_ok (h51: (b 51).d=d51) (hl2:d51.length≤40) (hb2:Byt d51):RowI d51 (nb b (rRow d51.length))∧(nb b (rRow d51.length) 7).i=0∧∀ j,j≠7→j≠8→j≠52→nb b (rRow d51.length) j=b j:=by
 refine ⟨⟨?_,hl2,hb2, ?_,by show (0:Int)≤0;decide,by show (0:Int)≤_;omega⟩,rfl,fun j h7 h8 h52=>nb_id (S:=[7,8,52]) (rRow_idx _) (by simp [h7,h8,h52])⟩
 ·show ((((b 51).d++[[DV.i 0]])++[[DV.i 1]])++[[DV.i 2]])++[[DV.i 3]]=_
  rw [h51];simp [rowD]
 ·show Int.ofNat (d51.length+4)=_
  simp
theorem rest_tri {b1:Nat→MV} (h:JA d50 d51 k H b1) (hb2:Byt d51) (hl:d50.length≤30) (hl2:d51.length≤40):Tri Tryz.prog N lw2 (At w0 N (vb b1 g z) (stA k)) fun e ac w'=>e= .ret∧∃ ρ' s',saysTrue lwRes s'=true∧At w0 N ρ' s' ac w':=by
 obtain ⟨k16,k0,e50,e51⟩:=h.k16
 have hr:=(bT (bT (RUq k k16 k0)).2).2
 unfold runBg at hr
 have hS:=start_ok h hl
 refine Tri.pre_runX (codeM _ _) (envR_ok (fBg_ok hS)) cutL2 hr (ren_nb (by decide)) ?_
 rw [lw3_eq]
 have h51': (nb b1 rBg 51).d=d51:=by rw [nb_id (r:=rBg) (S:=[5,9]) (by decide) (by decide)];exact e51
 obtain ⟨q1,q2,q3⟩:=rRow_ok h51' hl2 hb2
 refine Tri.seq (Mid:=fun ac w'=>∃ j,QEnd d50 d51 d50.length w0 N g z j ac w') ?_ (Tri.ex fun j=>rest7 j)
 refine Tri.seq (Mid:=At w0 N (vb (nb (nb b1 rBg) (rRow d51.length)) g z) (sh k 0 0)) ((row_tri (b:=nb b1 rBg) h51' hb2 (RUrow hl2 k16 k0)).post fun e ac w' hq=> .inl hq) ?_
 refine ((loopO (d50:=d50) (d51:=d51) (n:=d50.length) (g:=g) (z:=z)).pre fun ac w' hat=>⟨.inl (k,0,0,2*d50.length+1,pndF 0 H,nb (nb b1 rBg) (rRow d51.length)),⟨hS.congr (Nat.le_refl _) hS.k200 fun j h7 h8 h12 h52=>q3 j h7 h8 h52,q1,(by rw [q2];omega),(fun j hj hlt=>by rw [q2] at hlt;omega)⟩,hat⟩).post fun e ac w' hq=> .inl ⟨hq.1,hq.2⟩
theorem restZ (h:JZ d50 d51 b) (hb2:Byt d51) (hl2:d51.length≤40):Tri Tryz.prog N lw2 (At w0 N (vb b g z) sAz) fun e ac w'=>e= .ret∧∃ ρ' s',saysTrue lwRes s'=true∧At w0 N ρ' s' ac w':=by
 have hid:rBz.idEx []=true:=by decide
 obtain ⟨q1,q2,q3⟩:=rRow_ok h.s hl2 hb2
 refine Tri.pre_runX (codeM _ _) (envR_ok (f00_ok h)) cutL2 runZb (ren_nb (by decide)) ?_
 rw [nb_all hid,lw3_eq]
 refine Tri.seq (Mid:=At w0 N (vb (nb b (rRow d51.length)) g z) sXz) ?_ ?_
 ·refine Tri.seq (Mid:=At w0 N (vb (nb b (rRow d51.length)) g z) sHz) ((row_tri (b:=b) h.s hb2 (rowZ hl2)).post fun e ac w' hq=> .inl hq) ?_
  refine (Tri.block (Post:=fun e ac w'=>e= .normal∧At w0 N (vb (nb b (rRow d51.length)) g z) sXz ac w') ?_).post fun e ac w' h=> .inl h
  refine ((Tri.loop (Post:=fun e ac w'=>e= .exit 0∧At w0 N (vb (nb b (rRow d51.length)) g z) sXz ac w') (fun _:Unit=>0) (fun _ ac w'=>At w0 N (vb (nb b (rRow d51.length)) g z) sHz ac w') fun _=> ?_).pre fun ac w' h=>⟨(),h⟩).post fun e a w h=> .inl ⟨.inr h.1,rfl,h.2⟩
  have hid2:rXz.idEx []=true:=by decide
  refine (rX ((fIn_ok q1 (by rw [q2];omega))) runZh (by decide)).post fun e ac w' hq=> .inr ⟨by rw [hq.1];exact fun h=>(nomatch h),hq.1, ?_⟩
  have:=hq.2
  rw [nb_all hid2] at this
  exact this
 ·have hz:JZ d50 d51 (nb b (rRow d51.length)):=⟨by rw [q3 50 (by decide) (by decide) (by decide)];exact h.f,by rw [q3 51 (by decide) (by decide) (by decide)];exact h.s,h.z,by rw [q3 0 (by decide) (by decide) (by decide)];exact h.y,by rw [q3 1 (by decide) (by decide) (by decide)];exact h.q,by rw [q3 2 (by decide) (by decide) (by decide)];exact h.la,by rw [q3 4 (by decide) (by decide) (by decide)];exact h.du⟩
  exact (rX (r:={}) (f00_ok hz) runZe (by decide)).post fun e ac w' hq=>⟨hq.1,_,_,saysT,hq.2⟩
theorem law_all (hb:Byt d50) (hb2:Byt d51) (h50: (b 50).d=d50) (h51: (b 51).d=d51) (hm:d50.length≤9223372036854775807) (hm2:d51.length≤9223372036854775807):Tri Tryz.prog N lwBody (At w0 N (vb b g z) s0L) fun e a w'=>e= .ret∧∃ ρ' s',saysTrue lwRes s'=true∧At w0 N ρ' s' a w':=by
 have hf: (((b 50).d.length:Nat):Int)=d50.length:=by rw [h50]
 have hs: (((b 51).d.length:Nat):Int)=d51.length:=by rw [h51]
 by_cases hl:d50.length≤30
 ·by_cases hl2:d51.length≤40
  ·refine Tri.pre_runX (codeM _ _) (envR_ok (F:=fC) (rL 50 0 30 (by omega) (by omega) (rL 51 0 40 (by omega) (by omega) facts_nil))) cutL1 runP (ren_nb (by decide)) ?_
   rw [lw1_eq]
   refine Tri.seq ((call_tri (b:=nb b rP) hb hl h50 h51).post fun e a w h=> .inl h) ?_
   refine Tri.ex fun j=> ?_
   obtain ⟨z',b',o⟩:=j
   cases o with
   |none=>exact Tri.imp fun h=>restZ h hb2 hl2
   |some kH=>
    obtain ⟨k',H⟩:=kH
    exact Tri.imp fun h=>rest_tri h hb2 hl hl2
  ·exact (rX (F:=fBb) (r:={}) ((rL 50 0 30 (by omega) (by omega) (rL 51 41 9223372036854775807 (by omega) (by omega) facts_nil))) runTB (by decide)).post fun e a w' hq=>⟨hq.1,_,_,saysT,hq.2⟩
 ·exact (rX (F:=fA) (r:={}) ((rL 50 31 9223372036854775807 (by omega) (by omega) facts_nil)) runTA (by decide)).post fun e a w' hq=>⟨hq.1,_,_,saysT,hq.2⟩
end
end Go.Proofs.YtnofmmceafkkoaaGreat
