/-
  RollbackCells: the row of orders: two appends, one behind the other.
-/
import Derived.Test.YtnofmmceafkkoaaGreatEcW
set_option linter.unusedVariables false
set_option linter.unusedSimpArgs false
set_option maxRecDepth 100000
namespace Go.Proofs.YtnofmmceafkkoaaGreat
open Go.RowKit
def shB:Sh:= .i .u8 .nil
abbrev rN (n:Nat):Nm:= .f2 1410 (.num (Int.ofNat n)) (.f1 8 (.num 0))
def rowT:Nm:= .f2 1403 (.f2 1403 (.f2 1403 (.f2 1403 (.v 51) (rN 0)) (rN 1)) (rN 2)) (rN 3)
def rRow (n:Nat):Rn:=⟨pN [2,3,4,5]++[(7, .num 0),(8, .num (Int.ofNat (n+4)))],pN [21,23,25,27],pN [20,22,24,26],pN [0,1,9,50]++[(52,rowT)],[]⟩
def rowD (d:List (List DV)):List (List DV):=d++[[.i 0],[.i 1],[.i 2],[.i 3]]
def lo1:List AOp:=(regA lwRi).take 1
def lo7:List AOp:=(regA lwRi).drop 2
def apO:AOp:=⟨some (.x4, .x2), .ap 1 1 (.k (.c .sn)) (.t .x4 .x1),none⟩
theorem lwRi_eq:lwRi= .reg (lo1++apO::lo7):=by kernel_rfl
def cellsN (n:Nat):List AC:=(List.range n).map fun i=> .si .u8 (.f2 100 (.v 51) (.num (Int.ofNat i)))
def cells4 (n:Nat):List AC:=cellsN n++[.i .u8 0, .i .u8 1, .i .u8 2, .i .u8 3]
noncomputable def rowOk (n:Nat) (s s':Lit):Bool:=match aregion Tryz.prog (envR []) callL lo1 s.frame s.hp with
 | .no=>false
 | .ok fr1 h1=>(match getF .x4 .x1 fr1 with
  |some (.c (.ds e y))=>decide (e=shB)&&decide (y= .v 51)
  | _=>false)&&(match appendTo 1 1 .sn n (cellsN n) h1 with
  | .no=>false
  | .ok v h2=>match aregion Tryz.prog (envR []) callL lo7 (putF .x4 .x2 v fr1) h2 with
   | .no=>false
   | .ok fr3 h3=>match getF .x4 .x4 fr3 with
    |some (.c (.su j o m lb es))=>(decide (m=n+4)&&decide (es=1))&&((match h3.get j with
     |some (.cells cs)=>decide (cs=cells4 n)&&Nat.beq o 0
     | _=>false)&&fitsL (autoM s' (putF .x4 .x4 (.c (.ds shB rowT)) fr3) (h3.drop j)) (rRow n).nms s' (putF .x4 .x4 (.c (.ds shB rowT)) fr3) (h3.drop j))
    | _=>false)
theorem ap_of {P:Program} {op:Op} {s b:Nat} {ax ay:AX} (hc:cOp P op=some (.ap s b ax ay)):∃ c x y t tx el,op= .call c∧c.callee= .builtin .append∧c.args=#[x,y]∧c.argTypes=#[t,tx]∧P.underlying t=some (.slice el)∧((∃ e',P.underlying tx=some (.slice e'))∨P.underlying tx=some .string)∧∃ ax' ay',cX x=some ax'∧cX y=some ay'∧cAp P el ax' ay'=some (.ap s b ax ay):=by
 cases op with
 |call c=>
  simp only [cOp] at hc
  split at hc
  all_goals first| (exfalso;revert hc;((repeat' split)<;>intro hc<;>first| (cases hc;done) | (obtain ⟨_,_,h⟩:=map_some hc;cases h;done) | (obtain ⟨_,_,_,_,_,_,_,h⟩:=cOv_ok hc;cases h;done));done) |skip
  ·rename_i x y tx ty' hcal hargs hty
   split at hc
   ·exfalso
    revert hc
    (repeat' split)<;>intro hc<;>first| (cases hc;done)
   ·rename_i el el' ax' ay' hu hk hx hy
    exact ⟨c,_,_,_,_,_,rfl,hcal,arr2 hargs,arr2 hty,hu, .inl ⟨_,hk⟩,_,_,hx,hy,hc⟩
   ·rename_i el ax' ay' hu hk hx hy
    exact ⟨c,_,_,_,_,_,rfl,hcal,arr2 hargs,arr2 hty,hu, .inr hk,_,_,hx,hy,hc⟩
   ·cases hc
 |unOp uo t x=>
  exfalso
  cases uo<;>first| (cases hc;done) | (obtain ⟨_,_,h⟩:=map_some (show (cX x).map AO.not=some _ from hc);cases h;done)
 | _=>
  exfalso
  revert hc
  simp only [cOp]
  (try unfold cEqa)
  (try unfold cMu)
  (repeat' split)<;>intro hc<;>first| (cases hc;done) | (obtain ⟨_,_,h⟩:=map_some hc;cases h;done) |contradiction
theorem All2.ofGet {α β:Type} {R:α→β→Prop}:∀ {l:List α} {m:List β},l.length=m.length→(∀ (i:Nat) x y,l[i]? =some x→m[i]? =some y→R x y)→All2 R l m
 | [],[],_,_=> .nil
 |x::l,y::m,hl,h=> .cons (h 0 x y rfl rfl) (All2.ofGet (by simpa using hl) fun i u v hu hv=>h (i+1) u v (by simpa using hu) (by simpa using hv))
 | [],_::_,hl,_=>by simp at hl
 | _::_,[],hl,_=>by simp at hl
section
variable {P : Program} {E : Env} {ρ : Vn} {N : Nat}
/--rows of bytes appended to nothing:an own block,cell by cell-/
theorem ap_wp {ops:Array Oper} {i:Nat} {o:Oper} {dst:Option (D16×D16)} {ay:AX} (hi:ops[i]? =some o) (hc:cOper P N ops o=some ⟨dst, .ap 1 1 (.k (.c .sn)) ay,none⟩) {φ:Emb} {fr:Fr} {a:Act} {h h':Hp} {w:World} {v:AV} (g:Gv E ρ φ fr a h w) (hN:N≤a.tmps.size) {y:Nm} (hy:ev ay fr=some (.c (.ds shB y))) {cells:List AC}
  (hl:cells.length=(ρ.d y).length) (hcs:∀ (i:Nat) c,cells[i]? =some c→∃ x:Int,(ρ.d y)[i]? =some [DV.i x]∧VC ρ φ c (.int .u8 x)) (e:appendTo 1 1 .sn (ρ.d y).length cells h= .ok v h') {Q:Exit→Act→World→Prop} {rest:List Nat}
  (hn:∀ a' w' φ',FR ρ φ' (setDst dst v fr) a'.tmps→Stp ρ φ h w φ' h' w'→a'.defers=a.defers→a'.tmps.size=a.tmps.size→wpOps P ops Q rest a' w'):wpOps P ops Q (i::rest) a w:=by
 rw [wpOps_cons]
 obtain ⟨hd,hop,hg⟩:=cOper_ok hc
 have hgn:o.guard=none:=by
  rcases hg with h| ⟨j,want,g,t,p,_,_,_,_,h5⟩
  ·exact h.1
  ·cases h5
 have hco:cOp P o.op=some (.ap 1 1 (.k (.c .sn)) ay):=by
  cases h:cOp P o.op with
  |none=>rw [h] at hop;cases hop
  |some x=>rw [h] at hop;exact congrArg some hop.symm
 obtain ⟨c,x,yo,t,tx,el,h1,h2,h3,h4,h5,h6,ax',ay',h7,h8,h9⟩:=ap_of hco
 unfold cAp at h9
 split at h9
 ·rename_i s z b hs hz hb
  split at h9
  ·rename_i hcond
   cases h9
   have hp:VC ρ φ .sn (a.eval x):=cX_ok h7 g.fr rfl
   have hq:VC ρ φ (.ds shB y) (a.eval yo):=cX_ok h8 g.fr hy
   obtain ⟨zv,_,hz1,inf,hinf,hiz⟩:=run_zeroT (ρ:=ρ) (φ:=φ) hz
   obtain ⟨inf',hinf',hib⟩:=run_bytesT hb
   rw [hinf] at hinf'
   cases hinf'
   have his:inf.size=1:=by unfold sizeT at hs;rw [hinf] at hs;exact Option.some.inj hs
   have hzc:zv.cells.size=1:=by have:=hz1.length;simp at this;omega
   obtain ⟨news,hS,hR⟩:=SlD.src (P:=P) (tx:=tx) (e:=shB) (by decide) g.rel hq h6
   have hnl:news.length=(ρ.d y).length*1:=by rw [hS.newsLen];rfl
   have hnew:All2 (VC ρ φ) cells news:=All2.ofGet (by omega) fun i c u hci hui=>by
    obtain ⟨xi,k1,k2⟩:=hcs i c hci
    have k3:=hR i _ k1
    obtain ⟨n',l',vs',q1,q2,q3⟩:=k3
    cases q1
    have k4: ((news.drop (i*1)).take 1)[0]? =some (Value.int .u8 xi):=by
     rw [show (news.drop (i*1)).take 1=(news.drop (i*shB.len)).take shB.len from rfl,q2];rfl
    rw [List.getElem?_take_of_lt (by decide),List.getElem?_drop,Nat.mul_one,Nat.add_zero,hui] at k4
    cases k4
    exact k2
   obtain ⟨u,w',φ',q1,q2,q3⟩:=append_ok (P:=P) (ty:=o.type) g.rel hp (SrcG.of h5 hinf hiz (by omega) (by rw [his];exact hS)) hnew hnl his hib hzc (by decide) e
   have hwd:Region.wanted o (yielded ops a.tmps)=true:=by simp [Region.wanted,hgn]
   simp only [wpOp,hi,hwd,if_true]
   refine .inl ?_
   unfold Oper.wp
   rw [execOp_eq,h1,run_ap h2 h3 h4 q1]
   exact hn _ _ φ' (put_fr (g.fr.le q3.le) q2 hd hN) q3 (put_defers _ _ _) (put_size _ _ _)
  ·cases h9
 ·cases h9
end
theorem rRow_okk (n:Nat): (rRow n).ok=true:=by
 have h1:dup (rRow n).i=true:=by
  refine List.all_eq_true.2 fun y hy=>decide_eq_true ?_
  have hy':y∈[((2:Nat),Nm.v 2),(3, .v 3),(4, .v 4),(5, .v 5),(7, .num 0),(8, .num (Int.ofNat (n+4)))]:=hy
  simp only [List.mem_cons,List.not_mem_nil,or_false] at hy'
  rcases hy' with rfl|rfl|rfl|rfl|rfl|rfl<;>rfl
 unfold Rn.ok
 rw [h1];rfl
theorem rRow_idx (n:Nat): (rRow n).idEx [7,8,52]=true:=rfl
theorem rowOk_ok {n:Nat} {s s':Lit} (h:rowOk n s s'=true):∃ fr1 h1 v h2 fr3 h3 j m lb,aregion Tryz.prog (envR []) callL lo1 s.frame s.hp= .ok fr1 h1∧getF .x4 .x1 fr1=some (.c (.ds shB (.v 51)))∧appendTo 1 1 .sn n (cellsN n) h1= .ok v h2∧aregion Tryz.prog (envR []) callL lo7 (putF .x4 .x2 v fr1) h2= .ok fr3 h3∧getF .x4 .x4 fr3=some (.c (.su j 0 (n+4) lb 1))∧h3.get j=some (.cells (cells4 n))∧fitsL m (rRow n).nms s' (putF .x4 .x4 (.c (.ds shB rowT)) fr3) (h3.drop j)=true:=by
 unfold rowOk at h
 split at h
 ·cases h
 ·rename_i fr1 h1 e1
  rw [Bool.and_eq_true] at h
  obtain ⟨k1,h⟩:=h
  split at k1
  ·rename_i e y e2
   rw [Bool.and_eq_true,decide_eq_true_eq,decide_eq_true_eq] at k1
   obtain ⟨rfl,rfl⟩:=k1
   split at h
   ·cases h
   ·rename_i v h2 e3
    split at h
    ·cases h
    ·rename_i fr3 h3 e4
     split at h
     ·rename_i j o m lb es e5
      rw [Bool.and_eq_true,Bool.and_eq_true,Bool.and_eq_true,decide_eq_true_eq,decide_eq_true_eq] at h
      obtain ⟨⟨rfl,rfl⟩,k2,k3⟩:=h
      split at k2
      ·rename_i cs e6
       rw [Bool.and_eq_true,decide_eq_true_eq] at k2
       obtain ⟨rfl,k4⟩:=k2
       cases Nat.eq_of_beq_eq_true k4
       exact ⟨fr1,h1,v,h2,fr3,h3,j,_,lb,e1,e2,e3,e4,e5,e6,k3⟩
      ·cases k2
     ·cases h
  ·cases k1
theorem byt_i {d:List (List DV)} (hb:Byt d) {i:Nat} (hi:i<d.length):∃ x:Int,d[i]? =some [DV.i x]:=by
 obtain ⟨row,hrow⟩:=list_cases (d:=d) hi
 obtain ⟨x,rfl,_,_⟩:=hb i row hrow
 exact ⟨x,hrow⟩
theorem row_tri {w0:World} {N:Nat} {b:Nat→MV} {g:Nm→Value} {z:Nat→Option Obj} {d51:List (List DV)} {s s':Lit} (h51: (b 51).d=d51) (hby:Byt d51) (hok:rowOk d51.length s s'=true):Tri Tryz.prog N lwRi (At w0 N (vb b g z) s) fun e ac w'=>e= .normal∧At w0 N (vb (nb b (rRow d51.length)) g z) s' ac w':=by
 obtain ⟨fr1,h1,v,h2,fr3,h3,j,m,lb,e1,e2,e3,e4,e5,e6,e7⟩:=rowOk_ok hok
 have hE:EnvOk (envR []) (vb b g z):=envR_ok facts_nil
 have hC:=callM [] (nat_lit 60)
 rw [lwRi_eq]
 intro c hc
 refine strip (K:=fun c=>∀ a w,At w0 N (vb b g z) s a w→c.wp Tryz.prog (fun e a w=>Clean e∧(e= .normal∧At w0 N (vb (nb b (rRow d51.length)) g z) s' a w)) a w) (fun b hb a w hp=>tri_scope (hb a w hp)) ?_ c hc
 intro c hc hne a w hat
 cases c with
 |region id ops draw=>
  have hc':cRegion Tryz.prog N ops draw=some (.reg (lo1++apO::lo7)):=hc
  unfold cRegion at hc'
  cases hl:mapO (cOper Tryz.prog N ops) ops.toList with
  |none=>rw [hl] at hc';cases hc'
  |some l=>
   rw [hl] at hc'
   cases draw with
   |true=>
    simp only [Bool.not_true,Bool.false_eq_true,if_false] at hc'
    split at hc'<;>cases hc'
   |false=>
    have hcl:l=lo1++apO::lo7:=by
     simp only [Bool.not_false,if_true] at hc'
     exact ACd.reg.inj (Option.some.inj hc')
    subst hcl
    have hlen:=(mapO_get hl).1
    have hk:lo1.length<ops.size:=by
     have:ops.size=(lo1++apO::lo7).length:=by rw [← hlen];simp
     rw [this];simp
    refine wp_region ?_
    have hrange:List.range ops.size=List.range' 0 lo1.length++(lo1.length::List.range' (lo1.length+1) (ops.size-lo1.length-1)):=by
     rw [List.range_eq_range',← List.range'_succ,show ops.size-lo1.length-1+1=ops.size-lo1.length by omega]
     have:=List.range'_append_1 (s:=0) (m:=lo1.length) (n:=ops.size-lo1.length)
     rw [Nat.zero_add] at this
     rw [this];congr 1;omega
    rw [hrange]
    obtain ⟨φ,q1,q2,q3,q4,q5⟩:=hat
    refine region_part hC hl hE lo1.length 0 (by omega) φ _ a _ w fr1 h1 q1 q2 q5 (by rw [List.drop_zero,List.take_left'];exact e1;rfl) ?_
    rintro a1 w1 ⟨φ1,p1,p2,p3,p4⟩
    obtain ⟨o,ho⟩:∃ o,ops[lo1.length]? =some o:=⟨_,Array.getElem?_eq_getElem hk⟩
    obtain ⟨ao,k2,k3⟩:=(mapO_get hl).2 lo1.length o (by simpa using ho)
    have hao:ao=apO:=by
     rw [List.getElem?_append_right (Nat.le_refl _)] at k2
     simpa using k2.symm
    subst hao
    have hd: (vb b g z).d (.v 51)=d51:=h51
    refine ap_wp (E:=envR []) (y:= .v 51) (cells:=cellsN d51.length) (v:=v) (h':=h2) ho k3 ⟨p1,p2.rel,hE⟩ (by omega) e2 (by rw [hd];simp [cellsN]) (fun i c hci=> ?_) (by rw [hd];exact e3) ?_
    ·rw [hd]
     unfold cellsN at hci
     rw [List.getElem?_map] at hci
     cases hr: (List.range d51.length)[i]? with
     |none=>rw [hr] at hci;cases hci
     |some i'=>
      rw [hr] at hci
      cases hci
      have hi':=(List.getElem?_eq_some_iff.1 hr)
      have hlt:i<d51.length:=by simpa using hi'.1
      have hii:i'=i:=by have:=hi'.2;simpa using this.symm
      subst hii
      obtain ⟨x,hx⟩:=byt_i hby hlt
      refine ⟨x,hx, ?_⟩
      show Value.int .u8 x= .int .u8 ((vb b g z).i (.f2 100 (.v 51) (.num (Int.ofNat i'))))
      have hy: ((vb b g z).d (.v 51))[i']? =some [DV.i x]:=by rw [hd];exact hx
      have:=ci_row (o:=0) (n:=x) hy (show (vb b g z).i (.num (Int.ofNat i'))=i' by rw [(vb_std b g z).num];rfl) (by decide) rfl
      rw [this]
    ·intro a2 w2 φ2 r1 r2 r3 r4
     have happ:List.range' (lo1.length+1) (ops.size-lo1.length-1)=List.range' (lo1.length+1) (ops.size-lo1.length-1)++[]:=by simp
     rw [happ]
     refine region_part hC hl hE (ops.size-lo1.length-1) (lo1.length+1) (by omega) φ2 _ _ _ w2 fr3 h3 r1 r2.rel (by omega) ?_ ?_
     ·have hdrop: ((lo1++apO::lo7).drop (lo1.length+1))=lo7:=by
       rw [List.drop_append];simp
      rw [hdrop,List.take_of_length_le]
      ·exact e4
      ·have:ops.size=(lo1++apO::lo7).length:=by rw [← hlen];simp
       simp at this;omega
     ·rintro a3 w3 ⟨φ3,t1,t2,t3,t4⟩
      show Clean .normal∧_
      obtain ⟨hlt,u1⟩:=t1 .x4 .x4 _ e5
      obtain ⟨bl,base,tot,cap,u2,u3,u4,u5,u6⟩:=u1
      obtain ⟨bl',base',arr,T,u7,u8,u9⟩:=t2.rel.cells j _ e6
      rw [u2] at u7
      cases u7
      have st:=row_freeze t2.rel (by rw [e6];rfl) u2 u8 rfl (fun _ _=>rfl) rfl rfl rfl
      have hrow: (vb b g z).d rowT=rowD d51:=by
       show ((((b 51).d++[[DV.i 0]])++[[DV.i 1]])++[[DV.i 2]])++[[DV.i 3]]=_
       rw [h51];simp [rowD]
      have hlr: (rowD d51).length=d51.length+4:=by simp [rowD]
      have hv68:SlD (φ3.frz bl (.cells arr T (0,0))).z shB ((vb b g z).d rowT) (a3.tmps.getD (tn .x4 .x4) undef):=by
       rw [hrow]
       refine ⟨_,cap,by rw [u3,hlr],by rw [hlr];omega, .inr ⟨bl,base,arr,T,(0,0),by rw [Nat.add_zero],Emb.frz_same _ _ _,fun i row hir=> ?_⟩⟩
       have hi:i<d51.length+4:=by rw [← hlr];exact (List.getElem?_eq_some_iff.1 hir).1
       have key:∃ x:Int,row=[DV.i x]∧arr[base+i]? =some (.int .u8 x):=by
        by_cases hi2:i<d51.length
        ·obtain ⟨x,hx⟩:=byt_i hby hi2
         unfold rowD at hir
         rw [List.getElem?_append_left hi2,hx] at hir
         cases hir
         have hc4: (cells4 d51.length)[i]? =some (.si .u8 (.f2 100 (.v 51) (.num (Int.ofNat i)))):=by
          unfold cells4 cellsN
          rw [List.getElem?_append_left (by simpa using hi2),List.getElem?_map,List.getElem?_range hi2];rfl
         obtain ⟨vv,g1,g2⟩:=u9.2 i _ hc4
         have hy: ((vb b g z).d (.v 51))[i]? =some [DV.i x]:=by rw [hd];exact hx
         have:=ci_row (o:=0) (n:=x) hy (show (vb b g z).i (.num (Int.ofNat i))=i by rw [(vb_std b g z).num];rfl) (by decide) rfl
         have g3:vv= .int .u8 ((vb b g z).i (.f2 (100+0) (.v 51) (.num (Int.ofNat i)))):=g2
         rw [this] at g3
         exact ⟨x,rfl,by rw [g1,g3]⟩
        ·obtain ⟨t,rfl⟩:∃ t,i=d51.length+t:=⟨i-d51.length,by omega⟩
         unfold rowD at hir
         rw [List.getElem?_append_right (by omega),Nat.add_sub_cancel_left] at hir
         have hc4: (cells4 d51.length)[d51.length+t]? =([.i .u8 0, .i .u8 1, .i .u8 2, .i .u8 3]:List AC)[t]? :=by
          unfold cells4 cellsN
          rw [List.getElem?_append_right (by simp),List.length_map,List.length_range,Nat.add_sub_cancel_left]
         have ht:t=0∨t=1∨t=2∨t=3:=by omega
         rcases ht with rfl|rfl|rfl|rfl
         ·obtain ⟨vv,g1,g2⟩:=u9.2 _ (.i .u8 0) (hc4.trans rfl)
          cases hir
          exact ⟨0,rfl,by rw [g1];exact congrArg some g2⟩
         ·obtain ⟨vv,g1,g2⟩:=u9.2 _ (.i .u8 1) (hc4.trans rfl)
          cases hir
          exact ⟨1,rfl,by rw [g1];exact congrArg some g2⟩
         ·obtain ⟨vv,g1,g2⟩:=u9.2 _ (.i .u8 2) (hc4.trans rfl)
          cases hir
          exact ⟨2,rfl,by rw [g1];exact congrArg some g2⟩
         ·obtain ⟨vv,g1,g2⟩:=u9.2 _ (.i .u8 3) (hc4.trans rfl)
          cases hir
          exact ⟨3,rfl,by rw [g1];exact congrArg some g2⟩
       obtain ⟨x,rfl,hx⟩:=key
       refine ⟨x,[],[],rfl, ?_,rfl,rfl⟩
       show (arr.toList.drop (base+i*1)).take 1=_
       have hlt2:=(Array.getElem?_eq_some_iff.1 hx).1
       rw [Nat.mul_one,List.drop_eq_getElem_cons (by simpa using hlt2),List.take_succ_cons,List.take_zero]
       congr 1
       have:=(Array.getElem?_eq_some_iff.1 hx).2
       simpa using this
      have hfr:FR (vb b g z) (φ3.frz bl (.cells arr T (0,0))) (putF .x4 .x4 (.c (.ds shB rowT)) fr3) a3.tmps:=by
       intro i j' x hx
       by_cases hij:i= .x4∧j'= .x4
       ·obtain ⟨rfl,rfl⟩:=hij
        rw [getF_putF] at hx
        cases hx
        exact ⟨hlt,hv68⟩
       ·rw [getF_putF_ne hij] at hx
        exact (t1.le st.le) i j' x hx
      have hall:=((q3.step p2).step r2).step t2
      refine ⟨trivial,rfl,At.fits e7 (ren_nb (rRow_okk d51.length)) hfr st.rel (hall.step st) (by rw [t3,r3,p3,q4]) (by omega)⟩
 |scope b=>exact absurd rfl (hne b)
 |seq x y=>
  simp only [cCode] at hc
  split at hc<;>cases hc
 |cond o x y=>
  simp only [cCode] at hc
  split at hc<;>cases hc
 |block id b=>obtain ⟨_,_,h⟩:=map_some (show (cCode Tryz.prog N b).map (ACd.block id)=some _ from hc);cases h
 |loop b=>obtain ⟨_,_,h⟩:=map_some (show (cCode Tryz.prog N b).map ACd.loop=some _ from hc);cases h
 |skip=>cases hc
 |label l=>cases hc
 |exit id=>cases hc
 |ret=>cases hc
 | _=>cases hc
theorem rowZs: ((List.range 41).all fun n=>rowOk n sBz sHz)=true:=by kernel_rfl
theorem rowKs:∀ k,k<16→k≠0→((List.range 41).all fun n=>rowOk n (sBg k) (sh k 0 0))=true
 |0,_=>fun h=>absurd rfl h
 |1,_=>fun _=>by kernel_rfl
 |2,_=>fun _=>by kernel_rfl
 |3,_=>fun _=>by kernel_rfl
 |4,_=>fun _=>by kernel_rfl
 |5,_=>fun _=>by kernel_rfl
 |6,_=>fun _=>by kernel_rfl
 |7,_=>fun _=>by kernel_rfl
 |8,_=>fun _=>by kernel_rfl
 |9,_=>fun _=>by kernel_rfl
 |10,_=>fun _=>by kernel_rfl
 |11,_=>fun _=>by kernel_rfl
 |12,_=>fun _=>by kernel_rfl
 |13,_=>fun _=>by kernel_rfl
 |14,_=>fun _=>by kernel_rfl
 |15,_=>fun _=>by kernel_rfl
 |k+16,h=>absurd h (by omega)
theorem rowZ {n:Nat} (h:n≤40):rowOk n sBz sHz=true:=aT rowZs n (List.mem_range.2 (by omega))
theorem RUrow {n k:Nat} (h:n≤40) (hk:k<16) (k0:k≠0):rowOk n (sBg k) (sh k 0 0)=true:=aT (rowKs k hk k0) n (List.mem_range.2 (by omega))
end Go.Proofs.YtnofmmceafkkoaaGreat
