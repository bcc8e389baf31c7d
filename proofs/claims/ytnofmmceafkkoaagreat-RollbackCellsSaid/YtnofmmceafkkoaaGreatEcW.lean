/-
  RollbackCells: the walk over the runs (printed by a program).
-/
import Derived.Test.YtnofmmceafkkoaaGreatEcR0
import Derived.Test.YtnofmmceafkkoaaGreatEcR1
import Derived.Test.YtnofmmceafkkoaaGreatEcR2
import Derived.Test.YtnofmmceafkkoaaGreatEcR3
import Derived.Test.YtnofmmceafkkoaaGreatEcR4
import Derived.Test.YtnofmmceafkkoaaGreatEcR5
import Derived.Test.YtnofmmceafkkoaaGreatEcR6
import Derived.Test.YtnofmmceafkkoaaGreatEcR7
import Derived.Test.YtnofmmceafkkoaaGreatEcP
set_option linter.unusedVariables false
set_option linter.unusedSimpArgs false
set_option maxRecDepth 100000
namespace Go.Proofs.YtnofmmceafkkoaaGreat
open Go.RowKit
theorem by4 {P:Nat→Prop} (a:P 0) (b:P 1) (c:P 2) (d:P 3):∀ i,i<4→P i
 |0,_=>a
 |1,_=>b
 |2,_=>c
 |3,_=>d
 |i+4,h=>absurd h (by omega)
section
variable {b : Nat → MV} {g : Nm → Value} {z : Nat → Option Obj} {F : List Fc}
theorem rI (k:Nat) (p q:Int) (h:p≤(b k).i) (h': (b k).i≤q) (t:∀ f∈F,f.holds QR (vb b g z)):∀ f∈ .rng (.v k) p q::F,f.holds QR (vb b g z):=facts_cons ⟨h,h'⟩ t
theorem rL (k:Nat) (p q:Int) (h:p≤((b k).d.length:Int)) (h': ((b k).d.length:Int)≤q) (t:∀ f∈F,f.holds QR (vb b g z)):∀ f∈ .rng (.f1 5 (.v k)) p q::F,f.holds QR (vb b g z):=facts_cons ⟨h,h'⟩ t
theorem dI (k l:Nat) (p q:Int) (h:p≤(b k).i-(b l).i) (h': (b k).i-(b l).i≤q) (t:∀ f∈F,f.holds QR (vb b g z)):∀ f∈ .dif (.v k) (.v l) p q::F,f.holds QR (vb b g z):=facts_cons ⟨h,h'⟩ t
theorem dL (k l:Nat) (p q:Int) (h:p≤(b k).i-((b l).d.length:Int)) (h': (b k).i-((b l).d.length:Int)≤q) (t:∀ f∈F,f.holds QR (vb b g z)):∀ f∈ .dif (.v k) (.f1 5 (.v l)) p q::F,f.holds QR (vb b g z):=facts_cons ⟨h,h'⟩ t
theorem dM (k l:Nat) (p q:Int) (h:p≤((b k).d.length:Int)-((b l).d.length:Int)) (h': ((b k).d.length:Int)-((b l).d.length:Int)≤q) (t:∀ f∈F,f.holds QR (vb b g z)):∀ f∈ .dif (.f1 5 (.v k)) (.f1 5 (.v l)) p q::F,f.holds QR (vb b g z):=facts_cons ⟨h,h'⟩ t
end
theorem rX {F:List Fc} {b:Nat→MV} {g:Nm→Value} {z:Nat→Option Obj} (hf:∀ f∈F,f.holds QR (vb b g z)) {n:Nat} {c:ACd} {s t:Lit} {k:En} {r:Rn} (h:endsX k r.nms t (aev Tryz.prog (envR F) (tblM F) n c s.frame s.hp)=true) (o:r.ok=true) {w:World} {N:Nat}:Tri Tryz.prog N c (At w N (vb b g z) s) fun e a w'=>e=k.exit∧At w N (vb (nb b r) g z) t a w':=Tri.runX (codeM _ _) (envR_ok hf) h (ren_nb o)
theorem bT {a b:Bool} (h: (a&&b)=true):a=true∧b=true:=Bool.and_eq_true_iff.1 h
theorem aT {α:Type} {p:α→Bool} {l:List α} (h:l.all p=true) (x:α) (m:x∈l):p x=true:=List.all_eq_true.1 h x m
def allP (p:Nat→Prop):Nat→Nat→Prop
 | _,0=>True
 |k,n+1=>p k∧allP p (k+1) n
theorem allP_ok {p:Nat→Prop}:∀ {n k:Nat},allP p k n→∀ i,k≤i→i<k+n→p i
 |0,k,_,i,h1,h2=>absurd h2 (by omega)
 |n+1,k,h,i,h1,h2=>by
  by_cases e:i=k
  ·subst e;exact h.1
  ·exact allP_ok h.2 i (by omega) (by omega)
theorem four {p:Nat→Bool} (a:p 0=true) (b:p 1=true) (c:p 2=true) (d:p 3=true):∀ s,s<4→p s=true
 |0,_=>a
 |1,_=>b
 |2,_=>c
 |3,_=>d
 |s+4,h=>absurd h (by omega)
theorem RU1:∀ k,k<16→∀ s,s<4→run1 k s=true
 |0,_=>four ru1_0_0 ru1_0_1 ru1_0_2 ru1_0_3
 |1,_=>four ru1_1_0 ru1_1_1 ru1_1_2 ru1_1_3
 |2,_=>four ru1_2_0 ru1_2_1 ru1_2_2 ru1_2_3
 |3,_=>four ru1_3_0 ru1_3_1 ru1_3_2 ru1_3_3
 |4,_=>four ru1_4_0 ru1_4_1 ru1_4_2 ru1_4_3
 |5,_=>four ru1_5_0 ru1_5_1 ru1_5_2 ru1_5_3
 |6,_=>four ru1_6_0 ru1_6_1 ru1_6_2 ru1_6_3
 |7,_=>four ru1_7_0 ru1_7_1 ru1_7_2 ru1_7_3
 |8,_=>four ru1_8_0 ru1_8_1 ru1_8_2 ru1_8_3
 |9,_=>four ru1_9_0 ru1_9_1 ru1_9_2 ru1_9_3
 |10,_=>four ru1_10_0 ru1_10_1 ru1_10_2 ru1_10_3
 |11,_=>four ru1_11_0 ru1_11_1 ru1_11_2 ru1_11_3
 |12,_=>four ru1_12_0 ru1_12_1 ru1_12_2 ru1_12_3
 |13,_=>four ru1_13_0 ru1_13_1 ru1_13_2 ru1_13_3
 |14,_=>four ru1_14_0 ru1_14_1 ru1_14_2 ru1_14_3
 |15,_=>four ru1_15_0 ru1_15_1 ru1_15_2 ru1_15_3
 |k+16,h=>absurd h (by omega)
theorem RUq:∀ k,k<16→k≠0→(run1x k&&(runAb k&&runBg k))=true
 |0,_=>fun h=>absurd rfl h
 |1,_=>fun _=>ru1q_1
 |2,_=>fun _=>ru1q_2
 |3,_=>fun _=>ru1q_3
 |4,_=>fun _=>ru1q_4
 |5,_=>fun _=>ru1q_5
 |6,_=>fun _=>ru1q_6
 |7,_=>fun _=>ru1q_7
 |8,_=>fun _=>ru1q_8
 |9,_=>fun _=>ru1q_9
 |10,_=>fun _=>ru1q_10
 |11,_=>fun _=>ru1q_11
 |12,_=>fun _=>ru1q_12
 |13,_=>fun _=>ru1q_13
 |14,_=>fun _=>ru1q_14
 |15,_=>fun _=>ru1q_15
 |k+16,h=>absurd h (by omega)
theorem RUE_:∀ k,k<184→((stE.drop (k*1)).take 1).all pE=true:=fun k h=>allP_ok (p:=fun k=>((stE.drop (k*1)).take 1).all pE=true) (k:=0) (n:=184) ⟨ruE_0,ruE_1,ruE_2,ruE_3,ruE_4,ruE_5,ruE_6,ruE_7,ruE_8,ruE_9,ruE_10,ruE_11,ruE_12,ruE_13,ruE_14,ruE_15,ruE_16,ruE_17,ruE_18,ruE_19,ruE_20,ruE_21,ruE_22,ruE_23,ruE_24,ruE_25,ruE_26,ruE_27,ruE_28,ruE_29,ruE_30,ruE_31,ruE_32,ruE_33,ruE_34,ruE_35,ruE_36,ruE_37,ruE_38,ruE_39,ruE_40,ruE_41,ruE_42,ruE_43,ruE_44,ruE_45,ruE_46,ruE_47,ruE_48,ruE_49,ruE_50,ruE_51,ruE_52,ruE_53,ruE_54,ruE_55,ruE_56,ruE_57,ruE_58,ruE_59,ruE_60,ruE_61,ruE_62,ruE_63,ruE_64,ruE_65,ruE_66,ruE_67,ruE_68,ruE_69,ruE_70,ruE_71,ruE_72,ruE_73,ruE_74,ruE_75,ruE_76,ruE_77,ruE_78,ruE_79,ruE_80,ruE_81,ruE_82,ruE_83,ruE_84,ruE_85,ruE_86,ruE_87,ruE_88,ruE_89,ruE_90,ruE_91,ruE_92,ruE_93,ruE_94,ruE_95,ruE_96,ruE_97,ruE_98,ruE_99,ruE_100,ruE_101,ruE_102,ruE_103,ruE_104,ruE_105,ruE_106,ruE_107,ruE_108,ruE_109,ruE_110,ruE_111,ruE_112,ruE_113,ruE_114,ruE_115,ruE_116,ruE_117,ruE_118,ruE_119,ruE_120,ruE_121,ruE_122,ruE_123,ruE_124,ruE_125,ruE_126,ruE_127,ruE_128,ruE_129,ruE_130,ruE_131,ruE_132,ruE_133,ruE_134,ruE_135,ruE_136,ruE_137,ruE_138,ruE_139,ruE_140,ruE_141,ruE_142,ruE_143,ruE_144,ruE_145,ruE_146,ruE_147,ruE_148,ruE_149,ruE_150,ruE_151,ruE_152,ruE_153,ruE_154,ruE_155,ruE_156,ruE_157,ruE_158,ruE_159,ruE_160,ruE_161,ruE_162,ruE_163,ruE_164,ruE_165,ruE_166,ruE_167,ruE_168,ruE_169,ruE_170,ruE_171,ruE_172,ruE_173,ruE_174,ruE_175,ruE_176,ruE_177,ruE_178,ruE_179,ruE_180,ruE_181,ruE_182,ruE_183,trivial⟩ k (Nat.zero_le _) (by omega)
theorem RUF_:∀ k,k<132→((stF.drop (k*3)).take 3).all pF=true:=fun k h=>allP_ok (p:=fun k=>((stF.drop (k*3)).take 3).all pF=true) (k:=0) (n:=132) ⟨ruF_0,ruF_1,ruF_2,ruF_3,ruF_4,ruF_5,ruF_6,ruF_7,ruF_8,ruF_9,ruF_10,ruF_11,ruF_12,ruF_13,ruF_14,ruF_15,ruF_16,ruF_17,ruF_18,ruF_19,ruF_20,ruF_21,ruF_22,ruF_23,ruF_24,ruF_25,ruF_26,ruF_27,ruF_28,ruF_29,ruF_30,ruF_31,ruF_32,ruF_33,ruF_34,ruF_35,ruF_36,ruF_37,ruF_38,ruF_39,ruF_40,ruF_41,ruF_42,ruF_43,ruF_44,ruF_45,ruF_46,ruF_47,ruF_48,ruF_49,ruF_50,ruF_51,ruF_52,ruF_53,ruF_54,ruF_55,ruF_56,ruF_57,ruF_58,ruF_59,ruF_60,ruF_61,ruF_62,ruF_63,ruF_64,ruF_65,ruF_66,ruF_67,ruF_68,ruF_69,ruF_70,ruF_71,ruF_72,ruF_73,ruF_74,ruF_75,ruF_76,ruF_77,ruF_78,ruF_79,ruF_80,ruF_81,ruF_82,ruF_83,ruF_84,ruF_85,ruF_86,ruF_87,ruF_88,ruF_89,ruF_90,ruF_91,ruF_92,ruF_93,ruF_94,ruF_95,ruF_96,ruF_97,ruF_98,ruF_99,ruF_100,ruF_101,ruF_102,ruF_103,ruF_104,ruF_105,ruF_106,ruF_107,ruF_108,ruF_109,ruF_110,ruF_111,ruF_112,ruF_113,ruF_114,ruF_115,ruF_116,ruF_117,ruF_118,ruF_119,ruF_120,ruF_121,ruF_122,ruF_123,ruF_124,ruF_125,ruF_126,ruF_127,ruF_128,ruF_129,ruF_130,ruF_131,trivial⟩ k (Nat.zero_le _) (by omega)
theorem RUZ_:∀ k,k<10→(((stL.filter fun x=>Nat.beq x.1 0).drop (k*3)).take 3).all pZ=true:=fun k h=>allP_ok (p:=fun k=>(((stL.filter fun x=>Nat.beq x.1 0).drop (k*3)).take 3).all pZ=true) (k:=0) (n:=10) ⟨ruZ_0,ruZ_1,ruZ_2,ruZ_3,ruZ_4,ruZ_5,ruZ_6,ruZ_7,ruZ_8,ruZ_9,trivial⟩ k (Nat.zero_le _) (by omega)
theorem mem_stL {a m v:Nat} (ha:a<16) (hm:m<16) (hv:v<3) (h:okST a m v=true): (a,m,v)∈stL:=
 List.mem_flatMap.2 ⟨a,List.mem_range.2 ha,List.mem_flatMap.2 ⟨m,List.mem_range.2 hm,List.mem_map.2 ⟨v,List.mem_filter.2 ⟨List.mem_range.2 hv,h⟩,rfl⟩⟩⟩
theorem RUE {a m v s:Nat} (ha:a<16) (hm:m<16) (hv:v<3) (hs:s<4) (h:okST a m v=true) (hb:a.testBit s=true): ((runCm a m v s&&runCd a m v s)&&(runDm a m v s&&runDd a m v s))=true:=
 aT (all_cut 1 184 RUE_ (by decide)) ((a,m,v),s) (List.mem_flatMap.2 ⟨_,mem_stL ha hm hv h,List.mem_map.2 ⟨s,List.mem_filter.2 ⟨List.mem_range.2 hs,hb⟩,rfl⟩⟩)
theorem RUF {a m v s:Nat} (ha:a<16) (hm:m<16) (hv:v<3) (hs:s<4) (h:okST a m v=true) (hb:a.testBit s=false): (runSt a m v s&&runRe a m v s)=true:=
 aT (all_cut 3 132 RUF_ (by decide)) ((a,m,v),s) (List.mem_flatMap.2 ⟨_,mem_stL ha hm hv h,List.mem_map.2 ⟨s,List.mem_filter.2 ⟨List.mem_range.2 hs,by show (!a.testBit s)=true;rw [hb];rfl⟩,rfl⟩⟩)
theorem RUN {a m v s:Nat} (ha:a<16) (hm:m<16) (hv:v<3) (hs:s<4) (h:okST a m v=true):runEn a m v s=true:=by
 cases hb:a.testBit s with
 |true=>exact aT ruN_stE ((a,m,v),s) (List.mem_flatMap.2 ⟨_,mem_stL ha hm hv h,List.mem_map.2 ⟨s,List.mem_filter.2 ⟨List.mem_range.2 hs,hb⟩,rfl⟩⟩)
 |false=>exact aT ruN_stF ((a,m,v),s) (List.mem_flatMap.2 ⟨_,mem_stL ha hm hv h,List.mem_map.2 ⟨s,List.mem_filter.2 ⟨List.mem_range.2 hs,by show (!a.testBit s)=true;rw [hb];rfl⟩,rfl⟩⟩)
theorem RUI {a m v:Nat} (ha:a<16) (hm:m<16) (hv:v<3) (h:okST a m v=true):runIn a m v=true:=aT ruI (a,m,v) (mem_stL ha hm hv h)
theorem RUZ {m v:Nat} (hm:m<16) (hv:v<3) (h:okST 0 m v=true): ((runFi m v&&runHo m v)&&(runNj m v&&runF2 m v))=true:=
 aT (all_cut 3 10 RUZ_ (by decide)) (0,m,v) (List.mem_filter.2 ⟨mem_stL (by decide) hm hv h,rfl⟩)
theorem RUO {m:Nat} (hm:m<16): ((runOi m&&runOo m)&&(runOl m&&(runOq m&&runEn_ m)))=true:=aT ruO m (List.mem_range.2 hm)
section
variable {w0 : World} {N : Nat} {g : Nm → Value} {z : Nat → Option Obj} {b : Nat → MV} {k p n a m v K s : Nat} {d50 d51 : List (List DV)} {H R : List Wr} {L : Pnd}
theorem fIn1_ok (h:JW d50 k H b) (hl:d50.length≤30) (hlt: (b 7).i<d50.length):∀ f∈fIn1,f.holds QR (vb b g z):=by
 have h0:=h.i0
 have hn:=h.ln
 have hf: (((b 50).d.length:Nat):Int)=d50.length:=by rw [h.f]
 exact rI 7 0 30 (by omega) (by omega) (rI 8 0 30 (by omega) (by omega) (rL 50 0 30 (by omega) (by omega)
  (dI 7 8 (.negSucc 29) (.negSucc 0) (by omega) (by omega) (dL 7 50 (.negSucc 29) (.negSucc 0) (by omega) (by omega) facts_nil))))
theorem fOut1_ok (h:JW d50 k H b) (hl:d50.length≤30) (hge:¬ (b 7).i<d50.length):∀ f∈fOut1,f.holds QR (vb b g z):=by
 have h0:=h.i0
 have h1:=h.i1
 have hn:=h.ln
 have hf: (((b 50).d.length:Nat):Int)=d50.length:=by rw [h.f]
 exact rI 7 0 30 (by omega) (by omega) (rI 8 0 30 (by omega) (by omega) (rL 50 0 30 (by omega) (by omega)
  (dI 7 8 0 0 (by omega) (by omega) facts_nil)))
theorem fg1_ok {lo hi x:Int} (hx: (vb b g z).i (.f2 (100+0) (.v 50) (.v 7))=x) (x0:0≤x) {s:Nat} (hs:x.tmod 4=s) (y0:lo≤x) (y1:x≤hi):∀ f∈[Fc.rng (.f2 3 (.f2 (100+0) (.v 50) (.v 7)) (.num 4)) s s, .rng (.f2 (100+0) (.v 50) (.v 7)) lo hi, .rng (.f2 3 (.f2 (100+0) (.v 50) (.v 7)) (.num 26)) 0 25, .rng (.f1 6 (.f1 10 (.f2 1000 (.f2 3 (.f2 (100+0) (.v 50) (.v 7)) (.num 26)) (.num 97)))) 1 1],f.holds QR (vb b g z):=by
 have r26: (vb b g z).i (.f2 3 (.f2 (100+0) (.v 50) (.v 7)) (.num 26))=x.tmod 26:=by rw [(vb_std b g z).rem,hx];rfl
 have m26:=tmod26 x0
 exact facts_cons (by show (s:Int)≤(vb b g z).i (.f2 3 (.f2 (100+0) (.v 50) (.v 7)) (.num 4))∧(vb b g z).i (.f2 3 (.f2 (100+0) (.v 50) (.v 7)) (.num 4))≤s;rw [(vb_std b g z).rem,hx];show (s:Int)≤x.tmod 4∧x.tmod 4≤s;omega)
  (facts_cons (by show lo≤(vb b g z).i (.f2 (100+0) (.v 50) (.v 7))∧(vb b g z).i (.f2 (100+0) (.v 50) (.v 7))≤hi;rw [hx];exact ⟨y0,y1⟩) (facts_cons (by show (0:Int)≤(vb b g z).i (.f2 3 (.f2 (100+0) (.v 50) (.v 7)) (.num 26))∧(vb b g z).i (.f2 3 (.f2 (100+0) (.v 50) (.v 7)) (.num 26))≤25;rw [r26];omega)
  (facts_cons (by show (1:Int)≤((((vb b g z).s (.f1 10 (.f2 1000 (.f2 3 (.f2 (100+0) (.v 50) (.v 7)) (.num 26)) (.num 97)))).size:Nat):Int)∧((((vb b g z).s (.f1 10 (.f2 1000 (.f2 3 (.f2 (100+0) (.v 50) (.v 7)) (.num 26)) (.num 97)))).size:Nat):Int)≤1;rw [(vb_std b g z).byt,size_one];decide) facts_nil)))
theorem JW.step {s:Nat} {b':Nat→MV} {az:Bool} {ad:ByteArray} {pp:Int} (h:JW d50 k H b) (hl:d50.length≤30) (hlt: (b 7).i<d50.length) (hs:s<4) (hv:VCell az ad) (hvb:VCell (pc k b s).1 (pc k b s).2) (hpp:0≤pp∧pp≤(b 0).d.length)
  (hy: (b' 0).d=(b 0).d++[enR (((b 0).d.length:Int)+1) 1 1 (b 2).i pp 0 0 s (pc k b s).1 (pc k b s).2 az ad]) (hq: (b' 1).d=(b 1).d++[[DV.i (((b 0).d.length:Int)+1)]]) (h2: (b' 2).i=((b 0).d.length:Int)+1) (h3: (b' 3).i=((b 0).d.length:Int)+1) (h4: (b' 4).i=(b 4).i)
  (h50: (b' 50).d=(b 50).d) (h8: (b' 8).i=(b 8).i) (h7: (b' 7).i=(b 7).i+1) (hc1:∀ i,i<4→VCell (b' (20+2*i)).b (b' (21+2*i)).s) (hc:∀ i,i<4→pc (k|||2 ^ s) b' i=updC (pc k b) s (az,ad) i):JW d50 (k|||2 ^ s) (H++[(s,pc k b s,(az,ad))]) b':=by
 have hn:=h.n
 have h0:=h.i0
 have hla:=h.kb.la
 exact h.next hlt hs hy (h.kb.next (by omega) (by omega) rfl ⟨hpp.1,hpp.2⟩ hvb hv hy rfl hq h2 h3 (h4.trans h.kb.du) hc1) h50 h8 h7 hc
abbrev TB (w0:World) (N:Nat) (g:Nm→Value) (z:Nat→Option Obj) (d50:List (List DV)) (b:Nat→MV) (k:Nat):Prop:=Tri Tryz.prog N chB (At w0 N (vb b g z) (st1 k)) fun e a w=>e= .normal∧∃ k' H' b',(JW d50 k' H' b'∧(b' 7).i=(b 7).i+1∧(b' 51).d=(b 51).d)∧At w0 N (vb b' g z) (st1 k') a w
theorem rd1_00 (h:JW d50 k H b) (hl:d50.length≤30) (hlt: (b 7).i<d50.length) {x:Int} (hx: (vb b g z).i (.f2 (100+0) (.v 50) (.v 7))=x) (x0:0≤x) (x1:x≤255) (hs:x.tmod 4=0) (y0:0≤x) (y1:x≤200):
  TB w0 N g z d50 b k:=by
 have hf:=facts_app (show ∀ f∈fg10 0,f.holds QR (vb b g z) from fg1_ok (s:=0) (lo:=0) (hi:=200) hx x0 hs y0 y1) (facts_app (fIn1_ok h hl hlt) (fb4_ok h.kb))
 have hr:=(bT (RU1 _ h.k16 0 (by decide))).1
 unfold run10 at hr
 cases k with
 |zero=>
  have e0: (b 0).d=[]:=List.eq_nil_of_length_eq_zero (h.kb.k0.1 rfl)
  exact (rX hf hr (by decide)).post fun e a w hq=>⟨hq.1,_,_,nb b (r1 0 0 0),⟨h.step (s:=0) (pp:=0) (az:=true) (ad:=(nb b (r1 0 0 0) 21).s) hl hlt (by decide) (v1_ok _) v0_ok (by omega) (by rw [e0];rfl) (by rw [h.kb.q,e0];rfl) (by rw [e0];rfl) (by rw [e0];rfl) rfl rfl rfl rfl (by4 (v1_ok _) v0_ok v0_ok v0_ok) (by4 rfl rfl rfl rfl),rfl,rfl⟩,hq.2⟩
 |succ k=>
  have hc:=h.kb.c (by omega)
  have hpl:=h.kb.pl (by omega)
  refine (rX (r:=r1_10 0) hf hr (by decide)).post fun e a w hq=>⟨hq.1,_,_,nb b (r1 (k+1) 0 0),⟨h.step (s:=0) (pp:=(b 3).i) (az:=true) (ad:=(nb b (r1 (k+1) 0 0) 21).s) hl hlt (by decide) (v1_ok _) (hc 0 (by decide)) (by omega) rfl rfl rfl rfl rfl rfl rfl rfl (by4 (v1_ok _) (hc 1 (by decide)) (hc 2 (by decide)) (hc 3 (by decide))) ?_,rfl,rfl⟩,hq.2⟩
  intro i hi
  unfold pc
  rw [if_neg or_ne]
  exact match i,hi with
   |0,_=>rfl
   |1,_=>rfl
   |2,_=>rfl
   |3,_=>rfl
   |i+4,h=>absurd h (by omega)
theorem rd1_01 (h:JW d50 k H b) (hl:d50.length≤30) (hlt: (b 7).i<d50.length) {x:Int} (hx: (vb b g z).i (.f2 (100+0) (.v 50) (.v 7))=x) (x0:0≤x) (x1:x≤255) (hs:x.tmod 4=0) (y0:201≤x) (y1:x≤255):
  TB w0 N g z d50 b k:=by
 have hf:=facts_app (show ∀ f∈fg11 0,f.holds QR (vb b g z) from fg1_ok (s:=0) (lo:=201) (hi:=255) hx x0 hs y0 y1) (facts_app (fIn1_ok h hl hlt) (fb4_ok h.kb))
 have hr:=(bT (RU1 _ h.k16 0 (by decide))).2
 unfold run11 at hr
 cases k with
 |zero=>
  have e0: (b 0).d=[]:=List.eq_nil_of_length_eq_zero (h.kb.k0.1 rfl)
  exact (rX hf hr (by decide)).post fun e a w hq=>⟨hq.1,_,_,nb b (r1 0 0 1),⟨h.step (s:=0) (pp:=0) (az:=false) (ad:=(nb b (r1 0 0 1) 21).s) hl hlt (by decide) v0_ok v0_ok (by omega) (by rw [e0];rfl) (by rw [h.kb.q,e0];rfl) (by rw [e0];rfl) (by rw [e0];rfl) rfl rfl rfl rfl (by4 v0_ok v0_ok v0_ok v0_ok) (by4 rfl rfl rfl rfl),rfl,rfl⟩,hq.2⟩
 |succ k=>
  have hc:=h.kb.c (by omega)
  have hpl:=h.kb.pl (by omega)
  refine (rX (r:=r1_11 0) hf hr (by decide)).post fun e a w hq=>⟨hq.1,_,_,nb b (r1 (k+1) 0 1),⟨h.step (s:=0) (pp:=(b 3).i) (az:=false) (ad:=(nb b (r1 (k+1) 0 1) 21).s) hl hlt (by decide) v0_ok (hc 0 (by decide)) (by omega) rfl rfl rfl rfl rfl rfl rfl rfl (by4 v0_ok (hc 1 (by decide)) (hc 2 (by decide)) (hc 3 (by decide))) ?_,rfl,rfl⟩,hq.2⟩
  intro i hi
  unfold pc
  rw [if_neg or_ne]
  exact match i,hi with
   |0,_=>rfl
   |1,_=>rfl
   |2,_=>rfl
   |3,_=>rfl
   |i+4,h=>absurd h (by omega)
theorem rd1_10 (h:JW d50 k H b) (hl:d50.length≤30) (hlt: (b 7).i<d50.length) {x:Int} (hx: (vb b g z).i (.f2 (100+0) (.v 50) (.v 7))=x) (x0:0≤x) (x1:x≤255) (hs:x.tmod 4=1) (y0:0≤x) (y1:x≤200):
  TB w0 N g z d50 b k:=by
 have hf:=facts_app (show ∀ f∈fg10 1,f.holds QR (vb b g z) from fg1_ok (s:=1) (lo:=0) (hi:=200) hx x0 hs y0 y1) (facts_app (fIn1_ok h hl hlt) (fb4_ok h.kb))
 have hr:=(bT (RU1 _ h.k16 1 (by decide))).1
 unfold run10 at hr
 cases k with
 |zero=>
  have e0: (b 0).d=[]:=List.eq_nil_of_length_eq_zero (h.kb.k0.1 rfl)
  exact (rX hf hr (by decide)).post fun e a w hq=>⟨hq.1,_,_,nb b (r1 0 1 0),⟨h.step (s:=1) (pp:=0) (az:=true) (ad:=(nb b (r1 0 1 0) 23).s) hl hlt (by decide) (v1_ok _) v0_ok (by omega) (by rw [e0];rfl) (by rw [h.kb.q,e0];rfl) (by rw [e0];rfl) (by rw [e0];rfl) rfl rfl rfl rfl (by4 v0_ok (v1_ok _) v0_ok v0_ok) (by4 rfl rfl rfl rfl),rfl,rfl⟩,hq.2⟩
 |succ k=>
  have hc:=h.kb.c (by omega)
  have hpl:=h.kb.pl (by omega)
  refine (rX (r:=r1_10 1) hf hr (by decide)).post fun e a w hq=>⟨hq.1,_,_,nb b (r1 (k+1) 1 0),⟨h.step (s:=1) (pp:=(b 3).i) (az:=true) (ad:=(nb b (r1 (k+1) 1 0) 23).s) hl hlt (by decide) (v1_ok _) (hc 1 (by decide)) (by omega) rfl rfl rfl rfl rfl rfl rfl rfl (by4 (hc 0 (by decide)) (v1_ok _) (hc 2 (by decide)) (hc 3 (by decide))) ?_,rfl,rfl⟩,hq.2⟩
  intro i hi
  unfold pc
  rw [if_neg or_ne]
  exact match i,hi with
   |0,_=>rfl
   |1,_=>rfl
   |2,_=>rfl
   |3,_=>rfl
   |i+4,h=>absurd h (by omega)
theorem rd1_11 (h:JW d50 k H b) (hl:d50.length≤30) (hlt: (b 7).i<d50.length) {x:Int} (hx: (vb b g z).i (.f2 (100+0) (.v 50) (.v 7))=x) (x0:0≤x) (x1:x≤255) (hs:x.tmod 4=1) (y0:201≤x) (y1:x≤255):
  TB w0 N g z d50 b k:=by
 have hf:=facts_app (show ∀ f∈fg11 1,f.holds QR (vb b g z) from fg1_ok (s:=1) (lo:=201) (hi:=255) hx x0 hs y0 y1) (facts_app (fIn1_ok h hl hlt) (fb4_ok h.kb))
 have hr:=(bT (RU1 _ h.k16 1 (by decide))).2
 unfold run11 at hr
 cases k with
 |zero=>
  have e0: (b 0).d=[]:=List.eq_nil_of_length_eq_zero (h.kb.k0.1 rfl)
  exact (rX hf hr (by decide)).post fun e a w hq=>⟨hq.1,_,_,nb b (r1 0 1 1),⟨h.step (s:=1) (pp:=0) (az:=false) (ad:=(nb b (r1 0 1 1) 23).s) hl hlt (by decide) v0_ok v0_ok (by omega) (by rw [e0];rfl) (by rw [h.kb.q,e0];rfl) (by rw [e0];rfl) (by rw [e0];rfl) rfl rfl rfl rfl (by4 v0_ok v0_ok v0_ok v0_ok) (by4 rfl rfl rfl rfl),rfl,rfl⟩,hq.2⟩
 |succ k=>
  have hc:=h.kb.c (by omega)
  have hpl:=h.kb.pl (by omega)
  refine (rX (r:=r1_11 1) hf hr (by decide)).post fun e a w hq=>⟨hq.1,_,_,nb b (r1 (k+1) 1 1),⟨h.step (s:=1) (pp:=(b 3).i) (az:=false) (ad:=(nb b (r1 (k+1) 1 1) 23).s) hl hlt (by decide) v0_ok (hc 1 (by decide)) (by omega) rfl rfl rfl rfl rfl rfl rfl rfl (by4 (hc 0 (by decide)) v0_ok (hc 2 (by decide)) (hc 3 (by decide))) ?_,rfl,rfl⟩,hq.2⟩
  intro i hi
  unfold pc
  rw [if_neg or_ne]
  exact match i,hi with
   |0,_=>rfl
   |1,_=>rfl
   |2,_=>rfl
   |3,_=>rfl
   |i+4,h=>absurd h (by omega)
theorem rd1_20 (h:JW d50 k H b) (hl:d50.length≤30) (hlt: (b 7).i<d50.length) {x:Int} (hx: (vb b g z).i (.f2 (100+0) (.v 50) (.v 7))=x) (x0:0≤x) (x1:x≤255) (hs:x.tmod 4=2) (y0:0≤x) (y1:x≤200):
  TB w0 N g z d50 b k:=by
 have hf:=facts_app (show ∀ f∈fg10 2,f.holds QR (vb b g z) from fg1_ok (s:=2) (lo:=0) (hi:=200) hx x0 hs y0 y1) (facts_app (fIn1_ok h hl hlt) (fb4_ok h.kb))
 have hr:=(bT (RU1 _ h.k16 2 (by decide))).1
 unfold run10 at hr
 cases k with
 |zero=>
  have e0: (b 0).d=[]:=List.eq_nil_of_length_eq_zero (h.kb.k0.1 rfl)
  exact (rX hf hr (by decide)).post fun e a w hq=>⟨hq.1,_,_,nb b (r1 0 2 0),⟨h.step (s:=2) (pp:=0) (az:=true) (ad:=(nb b (r1 0 2 0) 25).s) hl hlt (by decide) (v1_ok _) v0_ok (by omega) (by rw [e0];rfl) (by rw [h.kb.q,e0];rfl) (by rw [e0];rfl) (by rw [e0];rfl) rfl rfl rfl rfl (by4 v0_ok v0_ok (v1_ok _) v0_ok) (by4 rfl rfl rfl rfl),rfl,rfl⟩,hq.2⟩
 |succ k=>
  have hc:=h.kb.c (by omega)
  have hpl:=h.kb.pl (by omega)
  refine (rX (r:=r1_10 2) hf hr (by decide)).post fun e a w hq=>⟨hq.1,_,_,nb b (r1 (k+1) 2 0),⟨h.step (s:=2) (pp:=(b 3).i) (az:=true) (ad:=(nb b (r1 (k+1) 2 0) 25).s) hl hlt (by decide) (v1_ok _) (hc 2 (by decide)) (by omega) rfl rfl rfl rfl rfl rfl rfl rfl (by4 (hc 0 (by decide)) (hc 1 (by decide)) (v1_ok _) (hc 3 (by decide))) ?_,rfl,rfl⟩,hq.2⟩
  intro i hi
  unfold pc
  rw [if_neg or_ne]
  exact match i,hi with
   |0,_=>rfl
   |1,_=>rfl
   |2,_=>rfl
   |3,_=>rfl
   |i+4,h=>absurd h (by omega)
theorem rd1_21 (h:JW d50 k H b) (hl:d50.length≤30) (hlt: (b 7).i<d50.length) {x:Int} (hx: (vb b g z).i (.f2 (100+0) (.v 50) (.v 7))=x) (x0:0≤x) (x1:x≤255) (hs:x.tmod 4=2) (y0:201≤x) (y1:x≤255):
  TB w0 N g z d50 b k:=by
 have hf:=facts_app (show ∀ f∈fg11 2,f.holds QR (vb b g z) from fg1_ok (s:=2) (lo:=201) (hi:=255) hx x0 hs y0 y1) (facts_app (fIn1_ok h hl hlt) (fb4_ok h.kb))
 have hr:=(bT (RU1 _ h.k16 2 (by decide))).2
 unfold run11 at hr
 cases k with
 |zero=>
  have e0: (b 0).d=[]:=List.eq_nil_of_length_eq_zero (h.kb.k0.1 rfl)
  exact (rX hf hr (by decide)).post fun e a w hq=>⟨hq.1,_,_,nb b (r1 0 2 1),⟨h.step (s:=2) (pp:=0) (az:=false) (ad:=(nb b (r1 0 2 1) 25).s) hl hlt (by decide) v0_ok v0_ok (by omega) (by rw [e0];rfl) (by rw [h.kb.q,e0];rfl) (by rw [e0];rfl) (by rw [e0];rfl) rfl rfl rfl rfl (by4 v0_ok v0_ok v0_ok v0_ok) (by4 rfl rfl rfl rfl),rfl,rfl⟩,hq.2⟩
 |succ k=>
  have hc:=h.kb.c (by omega)
  have hpl:=h.kb.pl (by omega)
  refine (rX (r:=r1_11 2) hf hr (by decide)).post fun e a w hq=>⟨hq.1,_,_,nb b (r1 (k+1) 2 1),⟨h.step (s:=2) (pp:=(b 3).i) (az:=false) (ad:=(nb b (r1 (k+1) 2 1) 25).s) hl hlt (by decide) v0_ok (hc 2 (by decide)) (by omega) rfl rfl rfl rfl rfl rfl rfl rfl (by4 (hc 0 (by decide)) (hc 1 (by decide)) v0_ok (hc 3 (by decide))) ?_,rfl,rfl⟩,hq.2⟩
  intro i hi
  unfold pc
  rw [if_neg or_ne]
  exact match i,hi with
   |0,_=>rfl
   |1,_=>rfl
   |2,_=>rfl
   |3,_=>rfl
   |i+4,h=>absurd h (by omega)
theorem rd1_30 (h:JW d50 k H b) (hl:d50.length≤30) (hlt: (b 7).i<d50.length) {x:Int} (hx: (vb b g z).i (.f2 (100+0) (.v 50) (.v 7))=x) (x0:0≤x) (x1:x≤255) (hs:x.tmod 4=3) (y0:0≤x) (y1:x≤200):
  TB w0 N g z d50 b k:=by
 have hf:=facts_app (show ∀ f∈fg10 3,f.holds QR (vb b g z) from fg1_ok (s:=3) (lo:=0) (hi:=200) hx x0 hs y0 y1) (facts_app (fIn1_ok h hl hlt) (fb4_ok h.kb))
 have hr:=(bT (RU1 _ h.k16 3 (by decide))).1
 unfold run10 at hr
 cases k with
 |zero=>
  have e0: (b 0).d=[]:=List.eq_nil_of_length_eq_zero (h.kb.k0.1 rfl)
  exact (rX hf hr (by decide)).post fun e a w hq=>⟨hq.1,_,_,nb b (r1 0 3 0),⟨h.step (s:=3) (pp:=0) (az:=true) (ad:=(nb b (r1 0 3 0) 27).s) hl hlt (by decide) (v1_ok _) v0_ok (by omega) (by rw [e0];rfl) (by rw [h.kb.q,e0];rfl) (by rw [e0];rfl) (by rw [e0];rfl) rfl rfl rfl rfl (by4 v0_ok v0_ok v0_ok (v1_ok _)) (by4 rfl rfl rfl rfl),rfl,rfl⟩,hq.2⟩
 |succ k=>
  have hc:=h.kb.c (by omega)
  have hpl:=h.kb.pl (by omega)
  refine (rX (r:=r1_10 3) hf hr (by decide)).post fun e a w hq=>⟨hq.1,_,_,nb b (r1 (k+1) 3 0),⟨h.step (s:=3) (pp:=(b 3).i) (az:=true) (ad:=(nb b (r1 (k+1) 3 0) 27).s) hl hlt (by decide) (v1_ok _) (hc 3 (by decide)) (by omega) rfl rfl rfl rfl rfl rfl rfl rfl (by4 (hc 0 (by decide)) (hc 1 (by decide)) (hc 2 (by decide)) (v1_ok _)) ?_,rfl,rfl⟩,hq.2⟩
  intro i hi
  unfold pc
  rw [if_neg or_ne]
  exact match i,hi with
   |0,_=>rfl
   |1,_=>rfl
   |2,_=>rfl
   |3,_=>rfl
   |i+4,h=>absurd h (by omega)
theorem rd1_31 (h:JW d50 k H b) (hl:d50.length≤30) (hlt: (b 7).i<d50.length) {x:Int} (hx: (vb b g z).i (.f2 (100+0) (.v 50) (.v 7))=x) (x0:0≤x) (x1:x≤255) (hs:x.tmod 4=3) (y0:201≤x) (y1:x≤255):
  TB w0 N g z d50 b k:=by
 have hf:=facts_app (show ∀ f∈fg11 3,f.holds QR (vb b g z) from fg1_ok (s:=3) (lo:=201) (hi:=255) hx x0 hs y0 y1) (facts_app (fIn1_ok h hl hlt) (fb4_ok h.kb))
 have hr:=(bT (RU1 _ h.k16 3 (by decide))).2
 unfold run11 at hr
 cases k with
 |zero=>
  have e0: (b 0).d=[]:=List.eq_nil_of_length_eq_zero (h.kb.k0.1 rfl)
  exact (rX hf hr (by decide)).post fun e a w hq=>⟨hq.1,_,_,nb b (r1 0 3 1),⟨h.step (s:=3) (pp:=0) (az:=false) (ad:=(nb b (r1 0 3 1) 27).s) hl hlt (by decide) v0_ok v0_ok (by omega) (by rw [e0];rfl) (by rw [h.kb.q,e0];rfl) (by rw [e0];rfl) (by rw [e0];rfl) rfl rfl rfl rfl (by4 v0_ok v0_ok v0_ok v0_ok) (by4 rfl rfl rfl rfl),rfl,rfl⟩,hq.2⟩
 |succ k=>
  have hc:=h.kb.c (by omega)
  have hpl:=h.kb.pl (by omega)
  refine (rX (r:=r1_11 3) hf hr (by decide)).post fun e a w hq=>⟨hq.1,_,_,nb b (r1 (k+1) 3 1),⟨h.step (s:=3) (pp:=(b 3).i) (az:=false) (ad:=(nb b (r1 (k+1) 3 1) 27).s) hl hlt (by decide) v0_ok (hc 3 (by decide)) (by omega) rfl rfl rfl rfl rfl rfl rfl rfl (by4 (hc 0 (by decide)) (hc 1 (by decide)) (hc 2 (by decide)) v0_ok) ?_,rfl,rfl⟩,hq.2⟩
  intro i hi
  unfold pc
  rw [if_neg or_ne]
  exact match i,hi with
   |0,_=>rfl
   |1,_=>rfl
   |2,_=>rfl
   |3,_=>rfl
   |i+4,h=>absurd h (by omega)
theorem round1 (h:JW d50 k H b) (hb:Byt d50) (hl:d50.length≤30) (hlt: (b 7).i<d50.length):TB w0 N g z d50 b k:=by
 obtain ⟨i,hi⟩:=Int.eq_ofNat_of_zero_le h.i0
 obtain ⟨row,hrow⟩:=list_cases (d:=d50) (i:=i) (by omega)
 obtain ⟨x,rfl,x0,x1⟩:=hb i row hrow
 have hy: ((vb b g z).d (.v 50))[i]? =some [DV.i x]:=(congrArg (fun x:List (List DV)=>x[i]?) h.f).trans hrow
 have hx: (vb b g z).i (.f2 (100+0) (.v 50) (.v 7))=x:=ci_row hy (show (vb b g z).i (.v 7)=i from hi) 0 (by decide) rfl
 by_cases hd:x≤200
 ·rcases tmod_cases4 x0 with hs|hs|hs|hs
  ·exact rd1_00 h hl hlt hx x0 x1 hs x0 hd
  ·exact rd1_10 h hl hlt hx x0 x1 hs x0 hd
  ·exact rd1_20 h hl hlt hx x0 x1 hs x0 hd
  ·exact rd1_30 h hl hlt hx x0 x1 hs x0 hd
 ·rcases tmod_cases4 x0 with hs|hs|hs|hs
  ·exact rd1_01 h hl hlt hx x0 x1 hs (by omega) x1
  ·exact rd1_11 h hl hlt hx x0 x1 hs (by omega) x1
  ·exact rd1_21 h hl hlt hx x0 x1 hs (by omega) x1
  ·exact rd1_31 h hl hlt hx x0 x1 hs (by omega) x1
theorem nb_all {r:Rn} (h:r.idEx []=true):nb b r=b:=funext fun n=>nb_id h rfl
theorem Tri.pre_loop {E:Env} {T:Tab} {n:Nat} (hcode:CodeOk Tryz.prog E T n) {ρ ρ':Vn} (he:EnvOk E ρ) {j:Nat} {ac r x y:ACd} {l:List ACd} (hcut:cutA j ac=some (l, .seq (.seq r x) y)) {s s':Lit} {m:List (Bid×Bid)} {nm:Nms} (hend:endsAt .nrm m nm s' (runL Tryz.prog E T n (l++[r]) s.frame s.hp)=true) (hr:Ren ρ ρ' nm)
  {Mid:Act→World→Prop} {Post:Exit→Act→World→Prop} (hx:Tri Tryz.prog N x (At w0 N ρ' s') fun e a w=>(e= .normal∧Mid a w)∨(e≠ .normal∧Post e a w)) (hy:Tri Tryz.prog N y Mid Post):Tri Tryz.prog N ac (At w0 N ρ s) Post:=by
 have split:∀ (l:List ACd) (fr:Fr) (h:Hp) (fr':Fr) (h':Hp),runL Tryz.prog E T n (l++[r]) fr h= .nrm fr' h'→∃ fr1 h1,runL Tryz.prog E T n l fr h= .nrm fr1 h1∧aev Tryz.prog E T n r fr1 h1= .nrm fr' h':=by
  intro l
  induction l with
  |nil=>
   intro fr h fr' h' e
   refine ⟨fr,h,rfl, ?_⟩
   have e':RC.casesOn (motive:=fun _=>RC) (aev Tryz.prog E T n r fr h) .no RC.nrm (fun _ _ _=> .no) (fun _ _=> .no)= .nrm fr' h':=e
   cases hc:aev Tryz.prog E T n r fr h with
   |nrm f q=>rw [hc] at e';exact e'
   |no=>rw [hc] at e';cases e'
   |ex i f q=>rw [hc] at e';cases e'
   |ret f q=>rw [hc] at e';cases e'
  |cons c l ih=>
   intro fr h fr' h' e
   have e':RC.casesOn (motive:=fun _=>RC) (aev Tryz.prog E T n c fr h) .no (runL Tryz.prog E T n (l++[r])) (fun _ _ _=> .no) (fun _ _=> .no)= .nrm fr' h':=e
   cases hc:aev Tryz.prog E T n c fr h with
   |nrm f q=>
    rw [hc] at e'
    obtain ⟨f1,q1,k1,k2⟩:=ih f q fr' h' e'
    refine ⟨f1,q1, ?_,k2⟩
    show RC.casesOn (motive:=fun _=>RC) (aev Tryz.prog E T n c fr h) .no (runL Tryz.prog E T n l) (fun _ _ _=> .no) (fun _ _=> .no)=_
    rw [hc];exact k1
   |no=>rw [hc] at e';cases e'
   |ex i f q=>rw [hc] at e';cases e'
   |ret f q=>rw [hc] at e';cases e'
 cases hrun:runL Tryz.prog E T n (l++[r]) s.frame s.hp with
 |no=>rw [hrun] at hend;cases hend
 |ex id f q=>rw [hrun] at hend;cases hend
 |ret f q=>rw [hrun] at hend;cases hend
 |nrm fr' h'=>
  rw [hrun] at hend
  obtain ⟨fr1,h1,k1,k2⟩:=split l _ _ _ _ hrun
  refine Tri.preH hcode he (r:= .seq (.seq r x) y) (fr':=fr1) (h':=h1) ?_ hcut k1
  refine Tri.seq (Mid:=Mid) ?_ hy
  refine Tri.seq (Mid:=At w0 N ρ' s') ?_ hx
  intro c hcc a w hat
  obtain ⟨φ,q1,q2,q3,q4,q5⟩:=hat
  refine wp_mono (hcode N c r hcc fr1 h1 _ k2 (by simp) ρ φ a w he q1 q2 q5) ?_
  rintro e a' w' ⟨rfl,φ',p1,p2,p3,p4⟩
  exact ⟨trivial, .inl ⟨rfl,At.fits hend hr p1 p2.rel (q3.step p2) (p3.trans q4) (by omega)⟩⟩
theorem Tri.pre_loopX {E:Env} {T:Tab} {n:Nat} (hcode:CodeOk Tryz.prog E T n) {ρ ρ':Vn} (he:EnvOk E ρ) {j:Nat} {ac r x y:ACd} {l:List ACd} (hcut:cutA j ac=some (l, .seq (.seq r x) y)) {s s':Lit} {nm:Nms} (hend:endsX .nrm nm s' (runL Tryz.prog E T n (l++[r]) s.frame s.hp)=true) (hr:Ren ρ ρ' nm)
  {Mid:Act→World→Prop} {Post:Exit→Act→World→Prop} (hx:Tri Tryz.prog N x (At w0 N ρ' s') fun e a w=>(e= .normal∧Mid a w)∨(e≠ .normal∧Post e a w)) (hy:Tri Tryz.prog N y Mid Post):Tri Tryz.prog N ac (At w0 N ρ s) Post:=by
 obtain ⟨m,hm⟩:=endsX_ok hend
 exact Tri.pre_loop hcode he hcut hm hr hx hy
theorem loop1 (hb:Byt d50) (hl0:1≤d50.length) (hl:d50.length≤30):Tri Tryz.prog N (.block 0 (.loop chB)) (fun a w=>∃ j:Nat×List Wr×(Nat→MV),(JW d50 j.1 j.2.1 j.2.2∧(j.2.2 51).d=d51)∧At w0 N (vb j.2.2 g z) (st1 j.1) a w) fun e a w=>e= .normal∧∃ k H b,((JW d50 k H b∧(b 7).i=d50.length∧k≠0)∧(b 51).d=d51)∧At w0 N (vb b g z) (st1x k) a w:=by
 refine Tri.block ?_
 refine (Tri.loop (Post:=fun e a w=>e= .exit 0∧∃ k H b,((JW d50 k H b∧(b 7).i=d50.length∧k≠0)∧(b 51).d=d51)∧At w0 N (vb b g z) (st1x k) a w) (fun j:Nat×List Wr×(Nat→MV)=>d50.length-(j.2.2 7).i.toNat) (fun j a w=>(JW d50 j.1 j.2.1 j.2.2∧(j.2.2 51).d=d51)∧At w0 N (vb j.2.2 g z) (st1 j.1) a w) fun j=>Tri.imp fun hj=> ?_).post fun e a w h=> .inl ⟨.inr h.1,rfl,h.2⟩
 obtain ⟨k,H,b⟩:=j
 obtain ⟨hj,hs⟩:JW d50 k H b∧(b 51).d=d51:=hj
 have h0:=hj.i0
 have h1:=hj.i1
 have h2:=hj.n
 by_cases hlt: (b 7).i<d50.length
 ·refine (round1 hj hb hl hlt).post fun e a w hq=> .inl ⟨hq.1, ?_⟩
  obtain ⟨_,k',H',b',⟨h1,h2,h4⟩,h3⟩:=hq
  exact ⟨(k',H',b'),(by show d50.length-(b' 7).i.toNat<d50.length-(b 7).i.toNat;rw [h2];omega),⟨h1,h4.trans hs⟩,h3⟩
 ·have hk:k≠0:=fun e=>by have:=hj.kb.k0.1 e;omega
  have hr:=(bT (RUq k hj.k16 hk)).1
  unfold run1x at hr
  have hid:rx1.idEx []=true:=by decide
  refine (rX (fOut1_ok hj hl hlt) hr (by decide)).post fun e a w hq=> .inr ⟨by rw [hq.1];exact fun h=>(nomatch h),hq.1,k,H,b,⟨⟨hj,by omega,hk⟩,hs⟩, ?_⟩
  have:=hq.2
  rw [nb_all hid] at this
  exact this
theorem loop0 (h50: (b 50).d.length=0) (h7: (b 7).i=0) (h8: (b 8).i=0):Tri Tryz.prog N (.block 0 (.loop chB)) (At w0 N (vb b g z) (st1 0)) fun e a w=>e= .normal∧At w0 N (vb b g z) (st1x 0) a w:=by
 refine Tri.block ?_
 refine ((Tri.loop (Post:=fun e a w=>e= .exit 0∧At w0 N (vb b g z) (st1x 0) a w) (fun _:Unit=>0) (fun _ a w=>At w0 N (vb b g z) (st1 0) a w) fun _=> ?_).pre fun a w hat=>⟨(),hat⟩).post fun e a w h=> .inl ⟨.inr h.1,rfl,h.2⟩
 have hid:rx10.idEx []=true:=by decide
 have fo:∀ f∈fO0,f.holds QR (vb b g z):=rL 50 0 0 (by omega) (by omega) (rI 7 0 30 (by omega) (by omega) (rI 8 0 30 (by omega) (by omega) (rL 50 0 30 (by omega) (by omega)
  (dI 7 8 0 0 (by omega) (by omega) facts_nil))))
 refine (rX fo runZx (by decide)).post fun e a w hq=> .inr ⟨by rw [hq.1];exact fun h=>(nomatch h),hq.1, ?_⟩
 have:=hq.2
 rw [nb_all hid] at this
 exact this
def kcOf (s:Lit):List AC:=match s.mem with
 | (_, .cells c)::_=>c
 | _=>[]
def kc (k:Nat):List AC:=kcOf (stCo k)
theorem retK (k:Nat):retOf chRes (stCo k).frame (stCo k).hp= .ok (.t [.a (kc k), .c (.i .i64 (.ofNat 1)), .c (.b true)]) (stCo k).hp:=by kernel_rfl
theorem retZ:retOf chRes sCz.frame sCz.hp= .ok (.t [.a (kcOf sCz), .c (.i .i64 (.ofNat 1)), .c (.b true)]) sCz.hp:=by kernel_rfl
structure JZ (d50 d51:List (List DV)) (b:Nat→MV):Prop where
 f: (b 50).d=d50
 s: (b 51).d=d51
 z:d50.length=0
 y: (b 0).d=[]
 q: (b 1).d=[]
 la: (b 2).i=0
 du: (b 4).i=0
def JA (d50 d51:List (List DV)) (k:Nat) (H:List Wr) (b:Nat→MV):Prop:=∃ b1,JW d50 k H b1∧(b1 7).i=d50.length∧(b1 51).d=d51∧k≠0∧b=nb b1 rab
def Cfin (g:Nm→Value) (z:Nat→Option Obj) (d50 d51:List (List DV)) (ρ:Vn) (v:AV) (h:Hp):Prop:=∃ b,ρ=vb b g z∧((JZ d50 d51 b∧v= .t [.a (kcOf sCz), .c (.i .i64 (.ofNat 1)), .c (.b true)]∧h=sCz.hp)∨∃ k H,(JA d50 d51 k H b)∧v= .t [.a (kc k), .c (.i .i64 (.ofNat 1)), .c (.b true)]∧h=(stCo k).hp)
theorem nab (b:Nat→MV): (nb b rab 0).d=(b 0).d++[enR (((b 0).d.length:Int)+1) 4 1 (b 2).i 0 0 0 0 false ⟨#[]⟩ false ⟨#[]⟩]∧(nb b rab 1).d=(b 1).d∧(nb b rab 2).i=((b 0).d.length:Int)+1∧(nb b rab 3).i=(b 3).i∧(nb b rab 4).i=(b 4).i∧(nb b rab 50).d=(b 50).d∧(nb b rab 51).d=(b 51).d:=⟨rfl,rfl,rfl,rfl,rfl,rfl,rfl⟩
theorem nabc (b:Nat→MV):∀ i,i<4→pcl (nb b rab) i=pcl b i:=by4 rfl rfl rfl rfl
theorem fC0_ok (h50: (b 50).d=d50) (hl:d50.length≤30):∀ f∈fC0,f.holds QR (vb b g z):=facts_cons ⟨Int.natCast_nonneg _,(by show (((b 50).d.length:Nat):Int)≤30;rw [h50];omega)⟩ facts_nil
theorem f00_ok (h:JZ d50 d51 b):∀ f∈f00,f.holds QR (vb b g z):=by
 have hq:=h.q
 have hla:=h.la
 have hd:=h.du
 have hy:=h.y
 have e1: (((b 1).d.length:Nat):Int)=0:=by rw [hq];rfl
 have e0: (((b 0).d.length:Nat):Int)=0:=by rw [hy];rfl
 have asc:Asc (b 1).d (b 2).i:=by rw [hq,hla];exact iot_asc (n:=0) (Int.le_refl _) (by decide)
 exact facts_cons (show Asc (b 1).d (b 2).i from asc) (rL 1 0 0 (by omega) (by omega) (rI 2 0 0 (by omega) (by omega) (rL 0 0 0 (by omega) (by omega) (rI 4 0 0 (by omega) (by omega)
  (facts_cons (show JV (b 0).d from by rw [hy];exact ⟨by decide,fun i r h=>nomatch h⟩) facts_nil)))))
theorem chg_tri (hb:Byt d50) (hl:d50.length≤30) (h50: (b 50).d=d50) (h51: (b 51).d=d51):Tri Tryz.prog N chBody (At w0 N (vb b g z) sC0) fun e a w=>e= .ret∧∃ ρ' s' v,retOf chRes s'.frame s'.hp= .ok v s'.hp∧Cfin g z d50 d51 ρ' v s'.hp∧At w0 N ρ' s' a w:=by
 have hcut:cutA 5 chBody=some (cutL 5 chBody, .seq (.seq chRi (.block (nat_lit 0) (.loop chB))) chRe):=by rw [← chX_eq];exact chCut
 by_cases hl0:1≤d50.length
 ·refine Tri.pre_loopX (codeC _ _) (envR_ok (fC0_ok h50 hl)) hcut runS (ren_nb (by decide)) (Mid:=fun a w=>∃ k H b,((JW d50 k H b∧(b 7).i=d50.length∧k≠0)∧(b 51).d=d51)∧At w0 N (vb b g z) (st1x k) a w) ?_ ?_
  ·refine ((loop1 hb hl0 hl).pre fun a w hat=>⟨(0,[],nb b rS), ?_,hat⟩).post fun e a w h=> .inl h
   exact ⟨⟨h50,(by show (((b 50).d.length:Nat):Int)=_;rw [h50]),(by show (0:Int)≤0;omega),(by show (0:Int)≤_;omega),rfl,rfl,(show (0:Nat)<16 by decide),
    ⟨⟨(show (0:Nat)≤4000 by decide),fun i row hr=>(nomatch hr)⟩,(show (0:Nat)≤900 by decide),rfl,fun h=>absurd rfl h,rfl,rfl,Nat.le_refl _,⟨fun _=>rfl,fun _=>rfl⟩,fun h=>absurd rfl h⟩,fun j x hx=>(nomatch hx),⟨_,Ch.nil,fun i hi=>rfl⟩,fun x hx=>(nomatch hx),fun s hs hb=>by rw [Nat.zero_testBit] at hb;cases hb⟩,h51⟩
  ·refine Tri.ex fun k=>Tri.ex fun H=>Tri.ex fun b'=>Tri.imp fun hk=> ?_
   obtain ⟨⟨h1,h7,hk0⟩,h51'⟩:=hk
   have hr:=(bT (bT (RUq k h1.k16 hk0)).2).1
   unfold runAb at hr
   have hset:PSet (nb b' rab 0).d (b' 1).d k:=h1.aset h7 hl0 hl (nab b').1
   have fa:∀ f∈fAB k,f.holds QR (vb b' g z):=facts_cons (show PSet (nb b' rab 0).d (b' 1).d ((k:Int)).toNat from hset) facts_nil
   exact (rX ((facts_app fa (fb4_ok h1.kb))) hr (by decide)).post fun e a w hq=>⟨hq.1,vb (nb b' rab) g z,stCo k,_,retK k,⟨nb b' rab,rfl, .inr ⟨k,H,⟨b',h1,h7,h51',hk0,rfl⟩,rfl,rfl⟩⟩,hq.2⟩
 ·refine Tri.pre_loopX (codeC _ _) (envR_ok (fC0_ok h50 hl)) hcut runS (ren_nb (by decide)) (Mid:=At w0 N (vb (nb b rS) g z) (st1x 0)) ?_ ?_
  ·refine (loop0 (b:=nb b rS) ?_ rfl ?_).post fun e a w h=> .inl h
   ·show (b 50).d.length=0
    rw [h50];omega
   ·show (((b 50).d.length:Nat):Int)=0
    rw [h50];omega
  ·have hz:JZ d50 d51 (nb b rS):=⟨h50,h51,by omega,rfl,rfl,rfl,rfl⟩
   have hid:rCz.idEx []=true:=by decide
   refine (rX (f00_ok hz) runZa (by decide)).post fun e a w hq=>⟨hq.1,vb (nb b rS) g z,sCz,_,retZ,⟨nb b rS,rfl, .inl ⟨hz,rfl,rfl⟩⟩, ?_⟩
   have:=hq.2
   rw [nb_all hid] at this
   exact this
def lc1:List AOp:=(regA lwRC).take (nat_lit 1)
def lc2:List AOp:=(regA lwRC).drop (nat_lit 2)
theorem lwRC_eq:lwRC= .reg (lc1++⟨some (.x3, .x1), .call ⟨.x0, .x0, .x8⟩ [.t .x3 .x0, .k (.c (.b true))],none⟩::lc2):=by kernel_rfl
noncomputable def callL:CallF:=callBy (tblM []) (aev Tryz.prog (envR []) (tblM []) (nat_lit 60))
theorem runC1:endsR [] rPc.nms sPL (aregion Tryz.prog (envR []) callL lc1 sP0.frame sP0.hp)=true:=by kernel_rfl
theorem evsC:evs sPL.frame [.t .x3 .x0, .k (.c (.b true))]=some [.c (.ds (.i .u8 .nil) (.v 50)), .c (.b true)]:=by kernel_rfl
theorem RUAz:endsRX rAz.nms sAz (aregion Tryz.prog (envR []) callL lc2 (setDst (some (.x3, .x1)) (.t [.a (kcOf sCz), .c (.i .i64 (.ofNat 1)), .c (.b true)]) sPL.frame) sCz.hp)=true:=by kernel_rfl
theorem RUA:∀ k,k<16→k≠0→endsRX rA.nms (stA k) (aregion Tryz.prog (envR []) callL lc2 (setDst (some (.x3, .x1)) (.t [.a (kc k), .c (.i .i64 (.ofNat 1)), .c (.b true)]) sPL.frame) (stCo k).hp)=true
 |0,_=>fun h=>absurd rfl h
 |1,_=>fun _=>by kernel_rfl
 |2,_=>fun _=>by kernel_rfl
 |3,_=>fun _=>by kernel_rfl
 |4,_=>fun _=>by kernel_rfl
 |5,_=>fun _=>by kernel_rfl
 |6,_=>fun _=>by kernel_rfl
 |7,_=>fun _=>by kernel_rfl
 |8,_=>fun _=>by kernel_rfl
 |9,_=>fun _=>by kernel_rfl
 |10,_=>fun _=>by kernel_rfl
 |11,_=>fun _=>by kernel_rfl
 |12,_=>fun _=>by kernel_rfl
 |13,_=>fun _=>by kernel_rfl
 |14,_=>fun _=>by kernel_rfl
 |15,_=>fun _=>by kernel_rfl
 |k+16,h=>absurd h (by omega)
theorem JA.k16 {d50 d51:List (List DV)} {k:Nat} {H:List Wr} {b:Nat→MV} (h:JA d50 d51 k H b):k<16∧k≠0∧(b 50).d=d50∧(b 51).d=d51:=by
 obtain ⟨b1,h1,h2,h3,h4,rfl⟩:=h
 exact ⟨h1.k16,h4,h1.f,h3⟩
theorem call_tri (hb:Byt d50) (hl:d50.length≤30) (h50: (b 50).d=d50) (h51: (b 51).d=d51):Tri Tryz.prog N lwRC (At w0 N (vb b g z) sP0) fun e a w=>e= .normal∧∃ j: (Nat→Option Obj)×(Nat→MV)×Option (Nat×List Wr),match j.2.2 with
  |none=>JZ d50 d51 j.2.1∧At w0 N (vb j.2.1 g j.1) sAz a w
  |some (k,H)=>JA d50 d51 k H j.2.1∧At w0 N (vb j.2.1 g j.1) (stA k) a w:=by
 rw [lwRC_eq]
 refine Tri.regcallM (call:=callL) (call2:=callL) (E2:=envR []) (callM [] _) (callM [] _) (envR_ok facts_nil) runC1 (ren_nb (by decide)) evsC ?_
 intro φ tmps w us hf hr ho hu
 cases hu with
 | @cons _ v1 _ _ x1 t1=>
  cases t1 with
  | @cons _ v2 _ _ x2 t2=>
   cases t2
   have e50: (nb b rPc 50).d=d50:=h50
   have e51: (nb b rPc 51).d=d51:=h51
   have y1:SlD φ.z (.i .u8 .nil) (nb b rPc 50).d v1:=x1
   refine (law_mem (ρ:=vb (nb b rPc) g φ.z) (s0:=sC0) (ac:=chBody) (res:=chRes) (args:=[.c (.ds (.i .u8 .nil) (.v 50)), .c (.b true)]) (Fin:=Cfin g φ.z d50 d51) Tryz.func8 (by kernel_rfl) ⟨_,rfl,rfl⟩ rfl (.cons y1 (.cons x2 .nil)) w (fun b x hb=>(hr.frz.at_ b x hb).1) (chg_tri hb hl e50 e51)).mono ?_
   rintro e w' ⟨u,ρ',φ',v,h',rfl,⟨b',rfl,hfin⟩,hvu,hr',ho'⟩
   have hd: (b' 50).d=d50∧(b' 51).d=d51:=by
    rcases hfin with ⟨h1,_⟩ | ⟨k,H,h1,_⟩
    ·exact ⟨h1.f,h1.s⟩
    ·exact ⟨h1.k16.2.2.1,h1.k16.2.2.2⟩
   have hz:∀ b x,φ.z b=some x→φ'.z b=some x:=hr'.frz.zin
   have frm:FR (vb b' g φ.z) φ' sPL.frame tmps:=by
    intro i j v hv
    obtain ⟨q1,q2⟩:=hf i j v hv
    refine ⟨q1, ?_⟩
    have hm:=frame_get (l:=sPL.fr) hv
    have hm': (i,j,v)∈[((.x0, .x0, .c (.ds (.i .u8 .nil) (.v 50))):D16×D16×AV),(.x0, .x1, .c (.ds (.i .u8 .nil) (.v 51))),(.x0, .x4, .c (.b false)),(.x3, .x0, .c (.ds (.i .u8 .nil) (.v 50)))]:=hm
    have s50:∀ x,VV (vb (nb b rPc) g z) φ (.c (.ds (.i .u8 .nil) (.v 50))) x→VV (vb b' g φ.z) φ' (.c (.ds (.i .u8 .nil) (.v 50))) x:=fun x hx=>by
     have hx':SlD φ.z (.i .u8 .nil) (nb b rPc 50).d x:=hx
     rw [e50,← hd.1] at hx'
     exact SlG.le hz (RowD.le hz _) hx'
    have s51:∀ x,VV (vb (nb b rPc) g z) φ (.c (.ds (.i .u8 .nil) (.v 51))) x→VV (vb b' g φ.z) φ' (.c (.ds (.i .u8 .nil) (.v 51))) x:=fun x hx=>by
     have hx':SlD φ.z (.i .u8 .nil) (nb b rPc 51).d x:=hx
     rw [e51,← hd.2] at hx'
     exact SlG.le hz (RowD.le hz _) hx'
    simp only [List.mem_cons,List.not_mem_nil,or_false,Prod.mk.injEq] at hm'
    rcases hm' with ⟨rfl,rfl,rfl⟩ | ⟨rfl,rfl,rfl⟩ | ⟨rfl,rfl,rfl⟩ | ⟨rfl,rfl,rfl⟩
    ·exact s50 _ q2
    ·exact s51 _ q2
    ·exact q2
    ·exact s50 _ q2
   have out:Out w0 φ' h' w':=⟨fun b hb=>(ho'.old b (Nat.lt_of_lt_of_le hb ho.size)).trans (ho.old b hb),Nat.le_trans ho.size ho'.size,ho'.os.trans ho.os,ho'.tape.trans ho.tape,ho'.output.trans ho.output,fun id x hi hx=>Nat.le_trans ho.size (ho'.live id x hi hx)⟩
   refine ⟨u,rfl,vb b' g φ.z,φ',v,h',envR_ok facts_nil,frm,hvu,hr',out, ?_⟩
   rcases hfin with ⟨h1,rfl,rfl⟩ | ⟨k,H,h1,rfl,rfl⟩
   ·obtain ⟨mm,hmm⟩:=endsRX_ok RUAz
    have hid:rAz.idEx []=true:=by decide
    have hren:=ren_nb (b:=b') (g:=g) (z:=φ.z) (r:=rAz) (by decide)
    rw [nb_all hid] at hren
    exact ⟨sAz,mm,_,vb b' g φ.z,hmm,hren,fun a w hat=>⟨rfl,(φ.z,b',none),h1,hat⟩⟩
   ·obtain ⟨mm,hmm⟩:=endsRX_ok (RUA k h1.k16.1 h1.k16.2.1)
    have hid:rA.idEx []=true:=by decide
    have hren:=ren_nb (b:=b') (g:=g) (z:=φ.z) (r:=rA) (by decide)
    rw [nb_all hid] at hren
    exact ⟨stA k,mm,_,vb b' g φ.z,hmm,hren,fun a w hat=>⟨rfl,(φ.z,b',some (k,H)),h1,hat⟩⟩
end
end Go.Proofs.YtnofmmceafkkoaaGreat
