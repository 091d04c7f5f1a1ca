/- A part of the claim: see its last text. -/
import Derived.Test.YtfemlajeomohhaaGreatDoorUK36

set_option maxRecDepth 100000
set_option maxHeartbeats 16000000
namespace Go.Proofs.YtfemlajeomohhaaGreatDoor
open Go Go.RowKit Go.Proofs
theorem Ro (h:MH) (m:AC) (f:Int×Int) (mc:Int) (w:World) (d:MD w w.heap.size h m) :
    Calls Tryz.prog 219 #[.agg #[.slice h.s m.sT.length h.sc,.slice h.f m.fT.length h.fc,.slice h.r m.rT.length h.rc,.slice h.m m.mT.length h.mc,.slice h.l m.lT.length h.lc,.slice h.i m.iT.length h.ic,.int .i64 m.dT,.int .i64 m.oT,.int .i64 m.vT,.int .i64 m.aT,.slice h.u m.uT.length h.uc],.agg #[.int .i64 f.1,.int .i64 f.2],.int .i64 mc] w (Ce w (.bool (CV m f mc))):=by
 have HS:=hide (S2.start w #[.slice h.s m.sT.length h.sc,.slice h.f m.fT.length h.fc,.slice h.r m.rT.length h.rc,.slice h.m m.mT.length h.mc,.slice h.l m.lT.length h.lc,.slice h.i m.iT.length h.ic,.int .i64 m.dT,.int .i64 m.oT,.int .i64 m.vT,.int .i64 m.aT,.slice h.u m.uT.length h.uc] #[.int .i64 f.1,.int .i64 f.2])
 have HD:=hide (fun W (hb:Below w.heap.size w W)=>H8 h m f.1 mc W (d.grow hb))
 have hU:undef=Value.tuple #[]:=rfl
 clear d
 by_cases hf:1≤f.2
 · have HV:=hide (show CV m f mc=(BN m f.1 mc == f.2) by unfold CV;rw[decide_eq_true hf,Bool.true_and,Bool.eq_iff_iff,decide_eq_true_eq,beq_iff_eq])
   go_enter Tryz.func219,Tryz.ntmps219
   go_wp2_with fail
   have HC:=hide (HD.out _ HS.out.drew.2.2)
   first
    | (go_region_held3 (fun W=>(W.cell? ⟨w.heap.size,0,none⟩=some (.slice h.s m.sT.length h.sc)∧W.cell? ⟨w.heap.size,1,none⟩=some (.slice h.f m.fT.length h.fc)∧W.cell? ⟨w.heap.size,2,none⟩=some (.slice h.r m.rT.length h.rc)∧W.cell? ⟨w.heap.size,3,none⟩=some (.slice h.m m.mT.length h.mc)∧W.cell? ⟨w.heap.size,4,none⟩=some (.slice h.l m.lT.length h.lc)∧W.cell? ⟨w.heap.size,5,none⟩=some (.slice h.i m.iT.length h.ic)∧W.cell? ⟨w.heap.size,6,none⟩=some (.int .i64 m.dT)∧W.cell? ⟨w.heap.size,7,none⟩=some (.int .i64 m.oT)∧W.cell? ⟨w.heap.size,8,none⟩=some (.int .i64 m.vT)∧W.cell? ⟨w.heap.size,9,none⟩=some (.int .i64 m.aT)∧W.cell? ⟨w.heap.size,10,none⟩=some (.slice h.u m.uT.length h.uc)∧W.cell? ⟨w.heap.size+1,0,none⟩=some (.int .i64 f.1)∧W.cell? ⟨w.heap.size+1,1,none⟩=some (.int .i64 f.2))∧S2 w #[.slice h.s m.sT.length h.sc,.slice h.f m.fT.length h.fc,.slice h.r m.rT.length h.rc,.slice h.m m.mT.length h.mc,.slice h.l m.lT.length h.lc,.slice h.i m.iT.length h.ic,.int .i64 m.dT,.int .i64 m.oT,.int .i64 m.vT,.int .i64 m.aT,.slice h.u m.uT.length h.uc] #[.int .i64 f.1,.int .i64 f.2] W) ((with_reducible (first|(go_keep;done)|exact⟨S2.cells HS.out.drew,HS.out.drew⟩|exact⟨S2.cells c7,c7⟩|(have hH:=(by assumption:_∧S2 _ _ _ _);exact⟨S2.cells (S2.drew hH.2),S2.drew hH.2⟩)))) (((with_reducible refine HC.out.mono ?_);rintro e w1 ⟨rfl,hb1⟩;have c7:=S2.grow HS.out.drew hb1)))
    | fail
   all_goals
    go_wp2_with fail
    go_ret
    exact⟨AJ (by rw[HV.out];rfl),c7.2.2⟩
 · have HF:=hide hf
   have HV:=hide (show CV m f mc=false by unfold CV;rw[decide_eq_false hf,Bool.false_and])
   clear hf
   go_enter Tryz.func219,Tryz.ntmps219
   go_wp2_with fail
   refine(show ∀ W0,S2 w #[.slice h.s m.sT.length h.sc,.slice h.f m.fT.length h.fc,.slice h.r m.rT.length h.rc,.slice h.m m.mT.length h.mc,.slice h.l m.lT.length h.lc,.slice h.i m.iT.length h.ic,.int .i64 m.dT,.int .i64 m.oT,.int .i64 m.vT,.int .i64 m.aT,.slice h.u m.uT.length h.uc] #[.int .i64 f.1,.int .i64 f.2] W0→Code.wp Tryz.prog _ _ _ W0 from ?_) _ HS.out
   intro W0 hS0
   have g1:=hS0.2.1.cell 1
   have gl:=hS0.2.1.lt
   simp at g1
   have HS0:=hide hS0
   have hd:decide (1≤f.2)=false:=decide_eq_false (by have:=HF.out;omega)
   clear hS0
   go_quiet (fail)
   go_wp2_with fail
   go_ret
   exact⟨AJ (by rw[HV.out];rfl),AY HS0.out.2.2 _⟩
structure Dx (w:World) (h:MH) (m:AC) (f:Int×Int) (q:Addr) (x:Int) (w2 W:World):Prop where
 s:AB W w.heap.size 29 #[.slice h.s m.sT.length h.sc,.slice h.f m.fT.length h.fc,.slice h.r m.rT.length h.rc,.slice h.m m.mT.length h.mc,.slice h.l m.lT.length h.lc,.slice h.i m.iT.length h.ic,.int .i64 m.dT,.int .i64 m.oT,.int .i64 m.vT,.int .i64 m.aT,.slice h.u m.uT.length h.uc]
 f:AB W (w.heap.size+1+1) 109 #[.int .i64 f.1,.int .i64 f.2]
 x:W.cell? q=some (.int .i64 x)
 lt:q.block<w2.heap.size
 b:Below w2.heap.size w2 W
theorem Dx.drew{w:World}{h:MH}{m:AC}{f:Int×Int}{q:Addr}{x:Int}{w2 W:World}(s:Dx w h m f q x w2 W):Dx w h m f q x w2 W.drew:=⟨s.s.drew,s.f.drew,s.x,s.lt,s.b.drew⟩
theorem Dx.grow {w:World} {h:MH} {m:AC} {f:Int×Int} {q:Addr} {x:Int} {w2 W W':World} (s:Dx w h m f q x w2 W) (hb:Below W.heap.size W W'):Dx w h m f q x w2 W' :=
 ⟨s.s.below hb s.s.lt,s.f.below hb s.f.lt,(hb.cell (Nat.lt_of_lt_of_le s.lt s.b.size)).trans s.x,s.lt,s.b.trans (hb.mono s.b.size)⟩
theorem Dx.cells{w:World}{h:MH}{m:AC}{f:Int×Int}{q:Addr}{x:Int}{w2 W:World}(s:Dx w h m f q x w2 W):(W.cell? ⟨w.heap.size,0,none⟩=some (.slice h.s m.sT.length h.sc)∧W.cell? ⟨w.heap.size,1,none⟩=some (.slice h.f m.fT.length h.fc)∧W.cell? ⟨w.heap.size,2,none⟩=some (.slice h.r m.rT.length h.rc)∧W.cell? ⟨w.heap.size,3,none⟩=some (.slice h.m m.mT.length h.mc)∧W.cell? ⟨w.heap.size,4,none⟩=some (.slice h.l m.lT.length h.lc)∧W.cell? ⟨w.heap.size,5,none⟩=some (.slice h.i m.iT.length h.ic)∧W.cell? ⟨w.heap.size,6,none⟩=some (.int .i64 m.dT)∧W.cell? ⟨w.heap.size,7,none⟩=some (.int .i64 m.oT)∧W.cell? ⟨w.heap.size,8,none⟩=some (.int .i64 m.vT)∧W.cell? ⟨w.heap.size,9,none⟩=some (.int .i64 m.aT)∧W.cell? ⟨w.heap.size,10,none⟩=some (.slice h.u m.uT.length h.uc))∧(W.cell? ⟨w.heap.size+1+1,0,none⟩=some (.int .i64 f.1)∧W.cell? ⟨w.heap.size+1+1,1,none⟩=some (.int .i64 f.2))∧W.cell? q=some (.int .i64 x):=⟨MB.cells s.s,⟨s.f.cell 0,s.f.cell 1⟩,s.x⟩
def U7(m:AC)(f:Int×Int)(L:List Int)(w:World)(v i:Value)(wr:World):Prop:=∃ k:Nat,k≤L.length∧i=.int .i64 k∧Hid (Av w.heap.size wr v ((L.take k).filter fun x=>!CV m f x))∧Below w.heap.size w wr
theorem Ff (h : MH) (m:AC) (A:Option Addr) (c:Nat) (p:AA) (f:Int×Int) (item:Int) (w:World) (d:MD w w.heap.size h m) (hp:PR w w.heap.size A p) (hl:p.length≤1000) (hul:(AQ p item).length≤1000) :
    Calls Tryz.prog 197 #[.agg #[.slice h.s m.sT.length h.sc,.slice h.f m.fT.length h.fc,.slice h.r m.rT.length h.rc,.slice h.m m.mT.length h.mc,.slice h.l m.lT.length h.lc,.slice h.i m.iT.length h.ic,.int .i64 m.dT,.int .i64 m.oT,.int .i64 m.vT,.int .i64 m.aT,.slice h.u m.uT.length h.uc],.agg #[.slice A p.length c],.agg #[.int .i64 f.1,.int .i64 f.2],.int .i64 item] w (GZ w (Bo m p f item)):=by
 have hb0:Below w.heap.size w (((w.alloc (.cells #[.slice h.s m.sT.length h.sc,.slice h.f m.fT.length h.fc,.slice h.r m.rT.length h.rc,.slice h.m m.mT.length h.mc,.slice h.l m.lT.length h.lc,.slice h.i m.iT.length h.ic,.int .i64 m.dT,.int .i64 m.oT,.int .i64 m.vT,.int .i64 m.aT,.slice h.u m.uT.length h.uc] 29)).alloc (.cells #[.slice A p.length c] 56)).alloc (.cells #[.int .i64 f.1,.int .i64 f.2] 109)):=(((Below.refl w.heap.size w).alloc (Nat.le_refl _) _).alloc (by simp) _).alloc (by simp;omega) _
 have HB:=hide hb0
 have HM:=hide (GM A c p item 0 _ (hp.grow hb0) hl hul)
 have HM0:=hide (show AB _ w.heap.size 29 #[.slice h.s m.sT.length h.sc,.slice h.f m.fT.length h.fc,.slice h.r m.rT.length h.rc,.slice h.m m.mT.length h.mc,.slice h.l m.lT.length h.lc,.slice h.i m.iT.length h.ic,.int .i64 m.dT,.int .i64 m.oT,.int .i64 m.vT,.int .i64 m.aT,.slice h.u m.uT.length h.uc] from((AB.new w 29 #[.slice h.s m.sT.length h.sc,.slice h.f m.fT.length h.fc,.slice h.r m.rT.length h.rc,.slice h.m m.mT.length h.mc,.slice h.l m.lT.length h.lc,.slice h.i m.iT.length h.ic,.int .i64 m.dT,.int .i64 m.oT,.int .i64 m.vT,.int .i64 m.aT,.slice h.u m.uT.length h.uc]).alloc (.cells #[.slice A p.length c] 56)).alloc (.cells #[.int .i64 f.1,.int .i64 f.2] 109))
 have HF0:=hide (show AB (((w.alloc (.cells #[.slice h.s m.sT.length h.sc,.slice h.f m.fT.length h.fc,.slice h.r m.rT.length h.rc,.slice h.m m.mT.length h.mc,.slice h.l m.lT.length h.lc,.slice h.i m.iT.length h.ic,.int .i64 m.dT,.int .i64 m.oT,.int .i64 m.vT,.int .i64 m.aT,.slice h.u m.uT.length h.uc] 29)).alloc (.cells #[.slice A p.length c] 56)).alloc (.cells #[.int .i64 f.1,.int .i64 f.2] 109)) (w.heap.size+1+1) 109 #[.int .i64 f.1,.int .i64 f.2] by
  have:=AB.new ((w.alloc (.cells #[.slice h.s m.sT.length h.sc,.slice h.f m.fT.length h.fc,.slice h.r m.rT.length h.rc,.slice h.m m.mT.length h.mc,.slice h.l m.lT.length h.lc,.slice h.i m.iT.length h.ic,.int .i64 m.dT,.int .i64 m.oT,.int .i64 m.vT,.int .i64 m.aT,.slice h.u m.uT.length h.uc] 29)).alloc (.cells #[.slice A p.length c] 56)) 109 #[.int .i64 f.1,.int .i64 f.2]
  simpa using this)
 have HML:=hide (show(Af p item 0).length≤1000 by have:=Bu p item 0;omega)
 have HD:=hide (fun W (hb:Below w.heap.size w W) (x:Int)=>Ro h m f x W (d.grow hb))
 have HSP:=hide (show Bo m p f item=(Af p item 0).filter fun x=>!CV m f x from rfl)
 clear hb0 d hp
 obtain⟨L,hL⟩:∃ L,L=Af p item 0:=⟨_,rfl⟩
 rw[← hL] at HM HML HSP
 clear hL
 go_enter Tryz.func197,Tryz.ntmps197
 go_wp2_with (go_at_call 198;refine HM.out.mono ?_;rintro e w1 ⟨v1,rfl,ho1,hb1⟩
              obtain⟨A1,c1,rfl,_,hI1⟩:=ho1.form
              have HM1:=hide (HM0.out.below hb1 HM0.out.lt)
              have HF1:=hide (HF0.out.below hb1 HF0.out.lt)
              have HB1:=hide (HB.out.trans (hb1.mono HB.out.size))
              have HI1:=hide hI1
              have HO:=hide (Av.new w1 [] (Nat.le_refl _) (by simp))
              clear ho1 hb1 hI1)
 clear HM0 HF0
 go_loopw [10,11] (fun v i wr=>U7 m f L w1 v i wr) (fun _ i _=>L.length - (intOf i).toNat)
 case atStart=>exact⟨0,Nat.zero_le _,rfl,HO.out,(Below.refl _ _).alloc (Nat.le_refl _) _⟩
 case round =>
  clear HO
  obtain⟨k,hk,rfl,hM,hbr⟩:=hrel
  by_cases hlt:k<L.length
  · obtain ⟨b,off,hA,hb,x0⟩:=Dy HI1.out hlt
    subst hA
    obtain⟨x,hx⟩:∃ x,x=L[k]:=⟨_,rfl⟩
    have hfx:((L.take (k+1)).filter fun x=>!CV m f x)=((L.take k).filter fun x=>!CV m f x)++if CV m f x=true then [] else [x]:=by
     rw[List.take_succ_eq_append_getElem hlt,List.filter_append,hx]
     cases e:CV m f L[k] <;> simp[e]
    obtain⟨q,hq⟩:∃ q,q=(L.take k).filter fun x=>!CV m f x:=⟨_,rfl⟩
    have hql:q.length≤1000:=by
     rw[hq];have:=List.length_filter_le (fun x=>!CV m f x) (L.take k);have:=HML.out;simp at *;omega
    rw[← hx] at x0
    rw[← hq] at hM hfx
    have HFX:=hide hfx
    have HS:=hide (show Dx w h m f ⟨b,off+k,none⟩ x w1 wr from⟨HM1.out.below hbr HM1.out.lt,HF1.out.below hbr HF1.out.lt,(hbr.cell (p:=⟨b,off+k,none⟩) hb).trans x0,hb,hbr⟩)
    have hlI:(k:Int)<(L.length:Int):=by omega
    have HLT:=hide hlt
    have hLl:=HML.out
    have HC:=hide (HD.out wr.drew (HB1.out.trans (HS.out.drew.b.mono HB1.out.size)) x)
    obtain⟨⟨a0,a1,a2,a3,a4,a5,a6,a7,a8,a9,a10⟩,⟨f0,f1⟩,x1⟩:=HS.out.cells
    have al:=HS.out.s.lt
    have fl:=HS.out.f.lt
    have xl:=Nat.lt_of_lt_of_le hb hbr.size
    clear hfx hx hq hbr x0 hb
    cases hh:CV m f x
    · rw[hh] at HC HFX
      go_wp2_with fail
      go_region_held3 (fun W=>((W.cell? ⟨w.heap.size,0,none⟩=some (.slice h.s m.sT.length h.sc)∧W.cell? ⟨w.heap.size,1,none⟩=some (.slice h.f m.fT.length h.fc)∧W.cell? ⟨w.heap.size,2,none⟩=some (.slice h.r m.rT.length h.rc)∧W.cell? ⟨w.heap.size,3,none⟩=some (.slice h.m m.mT.length h.mc)∧W.cell? ⟨w.heap.size,4,none⟩=some (.slice h.l m.lT.length h.lc)∧W.cell? ⟨w.heap.size,5,none⟩=some (.slice h.i m.iT.length h.ic)∧W.cell? ⟨w.heap.size,6,none⟩=some (.int .i64 m.dT)∧W.cell? ⟨w.heap.size,7,none⟩=some (.int .i64 m.oT)∧W.cell? ⟨w.heap.size,8,none⟩=some (.int .i64 m.vT)∧W.cell? ⟨w.heap.size,9,none⟩=some (.int .i64 m.aT)∧W.cell? ⟨w.heap.size,10,none⟩=some (.slice h.u m.uT.length h.uc))∧(W.cell? ⟨w.heap.size+1+1,0,none⟩=some (.int .i64 f.1)∧W.cell? ⟨w.heap.size+1+1,1,none⟩=some (.int .i64 f.2))∧W.cell? ⟨b,off+k,none⟩=some (.int .i64 x))∧Dx w h m f ⟨b,off+k,none⟩ x w1 W)
       ((with_reducible (first|(go_keep;done)|exact⟨Dx.cells HS.out.drew,HS.out.drew⟩|exact⟨Dx.cells c7,c7⟩|(have hH:=(by assumption:_∧Dx _ _ _ _ _ _ _ _);exact⟨Dx.cells (Dx.drew hH.2),Dx.drew hH.2⟩))))
       (((with_reducible refine HC.out.mono ?_);rintro e w5 ⟨rfl,hb5⟩;have c7:=Dx.grow HS.out.drew hb5))
      have HS5:=hide c7
      have x5:=c7.x
      have xl5:=Nat.lt_of_lt_of_le c7.lt c7.b.size
      have HO5:=hide (Av.below (w:=wr.drew) hM.out hb5)
      have HO6:=hide (HO5.out.alloc (.cells #[.int .i64 x] 3))
      have HR6:=hide (Ints.newRow2 w5 3 [x] rfl)
      have HZ:=hide (show w1.heap.size≤(w5.alloc (.cells #[.int .i64 x] 3)).heap.size by have:=c7.b.size;simp;omega)
      clear c7 hb5
      go_wp2_with (at_builtin;refine FN rfl _ _ rfl w1.heap.size _ q rfl HO6.out (w5.heap.size+1) (some ⟨w5.heap.size,0,none⟩) _ [x] rfl HR6.out (by simp;omega) HZ.out ?_;intro v3 w3 ho3 hg3 _;have ho3:=hide ho3;have hg3:=hide hg3)
      have hb3:Below w1.heap.size w1 w3:=(HS5.out.b.alloc HS5.out.b.size (.cells #[.int .i64 x] 3)).grown hg3.out HZ.out (fun g hg=>(HO6.out.lt g hg).1)
      go_roundw
      case rel=>exact⟨k+1,HLT.out,by have:=HML.out;have:=HLT.out;go_num,hide (by rw[HFX.out];simpa using ho3.out),hb3⟩
      case measure=>have:=HML.out;have:=HLT.out;simp[intOf];omega
    · rw[hh] at HC HFX
      go_wp2_with fail
      go_region_held3 (fun W=>((W.cell? ⟨w.heap.size,0,none⟩=some (.slice h.s m.sT.length h.sc)∧W.cell? ⟨w.heap.size,1,none⟩=some (.slice h.f m.fT.length h.fc)∧W.cell? ⟨w.heap.size,2,none⟩=some (.slice h.r m.rT.length h.rc)∧W.cell? ⟨w.heap.size,3,none⟩=some (.slice h.m m.mT.length h.mc)∧W.cell? ⟨w.heap.size,4,none⟩=some (.slice h.l m.lT.length h.lc)∧W.cell? ⟨w.heap.size,5,none⟩=some (.slice h.i m.iT.length h.ic)∧W.cell? ⟨w.heap.size,6,none⟩=some (.int .i64 m.dT)∧W.cell? ⟨w.heap.size,7,none⟩=some (.int .i64 m.oT)∧W.cell? ⟨w.heap.size,8,none⟩=some (.int .i64 m.vT)∧W.cell? ⟨w.heap.size,9,none⟩=some (.int .i64 m.aT)∧W.cell? ⟨w.heap.size,10,none⟩=some (.slice h.u m.uT.length h.uc))∧(W.cell? ⟨w.heap.size+1+1,0,none⟩=some (.int .i64 f.1)∧W.cell? ⟨w.heap.size+1+1,1,none⟩=some (.int .i64 f.2))∧W.cell? ⟨b,off+k,none⟩=some (.int .i64 x))∧Dx w h m f ⟨b,off+k,none⟩ x w1 W)
       ((with_reducible (first|(go_keep;done)|exact⟨Dx.cells HS.out.drew,HS.out.drew⟩|exact⟨Dx.cells c7,c7⟩|(have hH:=(by assumption:_∧Dx _ _ _ _ _ _ _ _);exact⟨Dx.cells (Dx.drew hH.2),Dx.drew hH.2⟩))))
       (((with_reducible refine HC.out.mono ?_);rintro e w5 ⟨rfl,hb5⟩;have c7:=Dx.grow HS.out.drew hb5))
      go_wp2_with fail
      go_roundw
      case rel=>exact⟨k+1,HLT.out,by have:=HML.out;have:=HLT.out;go_num,hide (by rw[HFX.out];simpa using Av.below (w:=wr.drew) hM.out hb5),c7.b⟩
      case measure=>have:=HML.out;have:=HLT.out;simp[intOf];omega
  · obtain rfl:k=L.length:=by omega
    have hM2:=hM.out
    rw[List.take_length,← HSP.out] at hM2
    have HMM:=hide hM2
    clear hM hM2
    go_wp2_with fail
    go_ret
    exact⟨_,rfl,Fx HMM.out HB1.out.size,HB1.out.trans (hbr.mono HB1.out.size)⟩
structure Bj (w:World) (h:MH) (m:AC) (q:Addr) (x:Int) (g:Nat) (w3 W:World):Prop where
 s:AB W w.heap.size 29 #[.slice h.s m.sT.length h.sc,.slice h.f m.fT.length h.fc,.slice h.r m.rT.length h.rc,.slice h.m m.mT.length h.mc,.slice h.l m.lT.length h.lc,.slice h.i m.iT.length h.ic,.int .i64 m.dT,.int .i64 m.oT,.int .i64 m.vT,.int .i64 m.aT,.slice h.u m.uT.length h.uc]
 x:W.cell? q=some (.int .i64 x)
 lt:q.block<W.heap.size
 ne:w.heap.size≠g
 qe:q.block≠g
 b:Am g w3 W
theorem Bj.grow {w:World} {h:MH} {m:AC} {q:Addr} {x:Int} {g:Nat} {w3 W W':World} (s:Bj w h m q x g w3 W) (hb:Below W.heap.size W W'):Bj w h m q x g w3 W' :=
 ⟨s.s.below hb s.s.lt,(hb.cell s.lt).trans s.x,Nat.lt_of_lt_of_le s.lt hb.size,s.ne,s.qe,s.b.trans (Am.below hb)⟩
theorem Bj.drew{w:World}{h:MH}{m:AC}{q:Addr}{x:Int}{g:Nat}{w3 W:World}(s:Bj w h m q x g w3 W):Bj w h m q x g w3 W.drew:=s.grow (Below.refl _ W).drew
theorem Bj.cells{w:World}{h:MH}{m:AC}{q:Addr}{x:Int}{g:Nat}{w3 W:World}(s:Bj w h m q x g w3 W):(W.cell? ⟨w.heap.size,0,none⟩=some (.slice h.s m.sT.length h.sc)∧W.cell? ⟨w.heap.size,1,none⟩=some (.slice h.f m.fT.length h.fc)∧W.cell? ⟨w.heap.size,2,none⟩=some (.slice h.r m.rT.length h.rc)∧W.cell? ⟨w.heap.size,3,none⟩=some (.slice h.m m.mT.length h.mc)∧W.cell? ⟨w.heap.size,4,none⟩=some (.slice h.l m.lT.length h.lc)∧W.cell? ⟨w.heap.size,5,none⟩=some (.slice h.i m.iT.length h.ic)∧W.cell? ⟨w.heap.size,6,none⟩=some (.int .i64 m.dT)∧W.cell? ⟨w.heap.size,7,none⟩=some (.int .i64 m.oT)∧W.cell? ⟨w.heap.size,8,none⟩=some (.int .i64 m.vT)∧W.cell? ⟨w.heap.size,9,none⟩=some (.int .i64 m.aT)∧W.cell? ⟨w.heap.size,10,none⟩=some (.slice h.u m.uT.length h.uc))∧W.cell? q=some (.int .i64 x):=⟨MB.cells s.s,s.x⟩
def VR(W:World)(g:Nat)(v:Value)(L:List Int):Prop:=(v=.slice none 0 0∧L=[])∨∃ Lb c cs,v=.slice (some ⟨Lb,0,none⟩) L.length c∧Lb≠g∧F8 W Lb cs L
structure Uz (w:World) (h:MH) (m:AC) (n g:Nat) (v:Value) (L:List Int) (W:World):Prop where
 b:Below w.heap.size w W
 mo:AB W w.heap.size 29 #[.slice h.s m.sT.length h.sc,.slice h.f m.fT.length h.fc,.slice h.r m.rT.length h.rc,.slice h.m m.mT.length h.mc,.slice h.l m.lT.length h.lc,.slice h.i m.iT.length h.ic,.int .i64 m.dT,.int .i64 m.oT,.int .i64 m.vT,.int .i64 m.aT,.slice h.u m.uT.length h.uc]
 z:AB W g 3 (Array.replicate n (.int .i64 0))
 ne:w.heap.size≠g
 le:w.heap.size≤g
 v:VR W g v L
structure CS (w:World) (M:Array Value) (A:Option Addr) (n c:Nat) (W:World):Prop where
 m:AB W w.heap.size 29 M
 p:AB W (w.heap.size+1) 56 #[.slice A n c]
 b:Below w.heap.size w W
theorem CS.grow{w:World}{M:Array Value}{A:Option Addr}{n c:Nat}{W W':World}(s:CS w M A n c W)(hb:Below W.heap.size W W'):CS w M A n c W':=⟨s.m.below hb s.m.lt,s.p.below hb s.p.lt,s.b.trans (hb.mono s.b.size)⟩
theorem CS.drew{w:World}{M:Array Value}{A:Option Addr}{n c:Nat}{W:World}(s:CS w M A n c W):CS w M A n c W.drew:=s.grow (Below.refl _ W).drew
theorem CS.alloc{w:World}{M:Array Value}{A:Option Addr}{n c:Nat}{W:World}(s:CS w M A n c W){o:Obj}:CS w M A n c (W.alloc o):=s.grow ((Below.refl _ _).alloc (Nat.le_refl _) _)
theorem CS.cells{w:World}{h:MH}{m:AC}{A:Option Addr}{n c:Nat}{W:World}(s:CS w #[.slice h.s m.sT.length h.sc,.slice h.f m.fT.length h.fc,.slice h.r m.rT.length h.rc,.slice h.m m.mT.length h.mc,.slice h.l m.lT.length h.lc,.slice h.i m.iT.length h.ic,.int .i64 m.dT,.int .i64 m.oT,.int .i64 m.vT,.int .i64 m.aT,.slice h.u m.uT.length h.uc] A n c W):(W.cell? ⟨w.heap.size,0,none⟩=some (.slice h.s m.sT.length h.sc)∧W.cell? ⟨w.heap.size,1,none⟩=some (.slice h.f m.fT.length h.fc)∧W.cell? ⟨w.heap.size,2,none⟩=some (.slice h.r m.rT.length h.rc)∧W.cell? ⟨w.heap.size,3,none⟩=some (.slice h.m m.mT.length h.mc)∧W.cell? ⟨w.heap.size,4,none⟩=some (.slice h.l m.lT.length h.lc)∧W.cell? ⟨w.heap.size,5,none⟩=some (.slice h.i m.iT.length h.ic)∧W.cell? ⟨w.heap.size,6,none⟩=some (.int .i64 m.dT)∧W.cell? ⟨w.heap.size,7,none⟩=some (.int .i64 m.oT)∧W.cell? ⟨w.heap.size,8,none⟩=some (.int .i64 m.vT)∧W.cell? ⟨w.heap.size,9,none⟩=some (.int .i64 m.aT)∧W.cell? ⟨w.heap.size,10,none⟩=some (.slice h.u m.uT.length h.uc))∧W.cell? ⟨w.heap.size+1,0,none⟩=some (.slice A n c):=⟨MB.cells s.m,s.p.cell 0⟩
theorem QC (h:MH) (m:AC) (A:Option Addr) (c:Nat) (p:AA) (item by_:Int) (w:World) (d:MD w w.heap.size h m) (hp:PR w w.heap.size A p) (hl:p.length≤1000) (hul:(AQ p item).length≤1000) (hd:AZ m by_≤100) :
    Calls Tryz.prog 220 #[.agg #[.slice h.s m.sT.length h.sc,.slice h.f m.fT.length h.fc,.slice h.r m.rT.length h.rc,.slice h.m m.mT.length h.mc,.slice h.l m.lT.length h.lc,.slice h.i m.iT.length h.ic,.int .i64 m.dT,.int .i64 m.oT,.int .i64 m.vT,.int .i64 m.aT,.slice h.u m.uT.length h.uc],.agg #[.slice A p.length c],.int .i64 item,.int .i64 by_] w (GZ w (BU m p item by_)):=by
 have hb0:Below w.heap.size w ((w.alloc (.cells #[.slice h.s m.sT.length h.sc,.slice h.f m.fT.length h.fc,.slice h.r m.rT.length h.rc,.slice h.m m.mT.length h.mc,.slice h.l m.lT.length h.lc,.slice h.i m.iT.length h.ic,.int .i64 m.dT,.int .i64 m.oT,.int .i64 m.vT,.int .i64 m.aT,.slice h.u m.uT.length h.uc] 29)).alloc (.cells #[.slice A p.length c] 56)):=((Below.refl w.heap.size w).alloc (Nat.le_refl _) _).alloc (by simp) _
 have HM0:=hide (show AB ((w.alloc (.cells #[.slice h.s m.sT.length h.sc,.slice h.f m.fT.length h.fc,.slice h.r m.rT.length h.rc,.slice h.m m.mT.length h.mc,.slice h.l m.lT.length h.lc,.slice h.i m.iT.length h.ic,.int .i64 m.dT,.int .i64 m.oT,.int .i64 m.vT,.int .i64 m.aT,.slice h.u m.uT.length h.uc] 29)).alloc (.cells #[.slice A p.length c] 56)) w.heap.size 29 #[.slice h.s m.sT.length h.sc,.slice h.f m.fT.length h.fc,.slice h.r m.rT.length h.rc,.slice h.m m.mT.length h.mc,.slice h.l m.lT.length h.lc,.slice h.i m.iT.length h.ic,.int .i64 m.dT,.int .i64 m.oT,.int .i64 m.vT,.int .i64 m.aT,.slice h.u m.uT.length h.uc] from(AB.new w _ _).alloc _)
 have HP0:=hide (show AB ((w.alloc (.cells #[.slice h.s m.sT.length h.sc,.slice h.f m.fT.length h.fc,.slice h.r m.rT.length h.rc,.slice h.m m.mT.length h.mc,.slice h.l m.lT.length h.lc,.slice h.i m.iT.length h.ic,.int .i64 m.dT,.int .i64 m.oT,.int .i64 m.vT,.int .i64 m.aT,.slice h.u m.uT.length h.uc] 29)).alloc (.cells #[.slice A p.length c] 56)) (w.heap.size+1) 56 #[.slice A p.length c] by
  have:=AB.new (w.alloc (.cells #[.slice h.s m.sT.length h.sc,.slice h.f m.fT.length h.fc,.slice h.r m.rT.length h.rc,.slice h.m m.mT.length h.mc,.slice h.l m.lT.length h.lc,.slice h.i m.iT.length h.ic,.int .i64 m.dT,.int .i64 m.oT,.int .i64 m.vT,.int .i64 m.aT,.slice h.u m.uT.length h.uc] 29)) 56 #[.slice A p.length c]
  simpa using this)
 have HB:=hide hb0
 have HDM:=hide (fun W=>CO h m by_ W)
 have HD:=hide (fun W (hb:Below w.heap.size w W) (x:Int)=>H8 h m by_ x W (d.grow hb))
 have HM:=hide (fun W (hb:Below w.heap.size w W)=>GM A c p item 0 W (hp.grow hb) hl hul)
 have HML:=hide (show(Af p item 0).length≤1000 by have:=Bu p item 0;omega)
 obtain⟨n,hn⟩:∃ n:Nat,AZ m by_=(n:Int):=⟨(AZ m by_).toNat,by have:=Cw m by_;omega⟩
 have HNI:=hide hn
 have hn100:n≤100:=by omega
 rw[hn] at HDM
 clear hb0 d hp hd hn
 have hmk:=fun W=>Ov n (by omega) W
 go_enter Tryz.func220,Tryz.ntmps220
 have HS:=hide (show CS w #[.slice h.s m.sT.length h.sc,.slice h.f m.fT.length h.fc,.slice h.r m.rT.length h.rc,.slice h.m m.mT.length h.mc,.slice h.l m.lT.length h.lc,.slice h.i m.iT.length h.ic,.int .i64 m.dT,.int .i64 m.oT,.int .i64 m.vT,.int .i64 m.aT,.slice h.u m.uT.length h.uc] A p.length c _ from⟨HM0.out,HP0.out,HB.out⟩)
 go_wp2_with fail
 go_region_held3 (fun W=>((W.cell? ⟨w.heap.size,0,none⟩=some (.slice h.s m.sT.length h.sc)∧W.cell? ⟨w.heap.size,1,none⟩=some (.slice h.f m.fT.length h.fc)∧W.cell? ⟨w.heap.size,2,none⟩=some (.slice h.r m.rT.length h.rc)∧W.cell? ⟨w.heap.size,3,none⟩=some (.slice h.m m.mT.length h.mc)∧W.cell? ⟨w.heap.size,4,none⟩=some (.slice h.l m.lT.length h.lc)∧W.cell? ⟨w.heap.size,5,none⟩=some (.slice h.i m.iT.length h.ic)∧W.cell? ⟨w.heap.size,6,none⟩=some (.int .i64 m.dT)∧W.cell? ⟨w.heap.size,7,none⟩=some (.int .i64 m.oT)∧W.cell? ⟨w.heap.size,8,none⟩=some (.int .i64 m.vT)∧W.cell? ⟨w.heap.size,9,none⟩=some (.int .i64 m.aT)∧W.cell? ⟨w.heap.size,10,none⟩=some (.slice h.u m.uT.length h.uc))∧W.cell? ⟨w.heap.size+1,0,none⟩=some (.slice A p.length c))∧CS w #[.slice h.s m.sT.length h.sc,.slice h.f m.fT.length h.fc,.slice h.r m.rT.length h.rc,.slice h.m m.mT.length h.mc,.slice h.l m.lT.length h.lc,.slice h.i m.iT.length h.ic,.int .i64 m.dT,.int .i64 m.oT,.int .i64 m.vT,.int .i64 m.aT,.slice h.u m.uT.length h.uc] A p.length c W)
  ((with_reducible (first|(go_keep;done)|exact⟨CS.cells HS.out.drew,HS.out.drew⟩|exact⟨CS.cells c1,c1⟩|exact⟨CS.cells c3,c3⟩|exact⟨CS.cells (CS.alloc c1),CS.alloc c1⟩|exact⟨CS.cells (CS.alloc c3),CS.alloc c3⟩|(have hH:=(by assumption:_∧CS _ _ _ _ _ _);first|exact⟨CS.cells (CS.drew hH.2),CS.drew hH.2⟩|exact⟨CS.cells (CS.alloc hH.2),CS.alloc hH.2⟩))))
  ((first
    | (go_at_call 136;first
        | (have hH:=(by assumption:_∧CS _ _ _ _ _ _);(with_reducible refine(HDM.out _).mono ?_);rintro e w1 ⟨rfl,hb1⟩;have c1:=CS.grow hH.2 hb1;clear hH)
        | (have hH:=And.intro (CS.cells HS.out.drew) HS.out.drew;(with_reducible refine(HDM.out _).mono ?_);rintro e w1 ⟨rfl,hb1⟩;have c1:=CS.grow hH.2 hb1;clear hH))
    | (go_at_call 198;first
        | (have hH:=(by assumption:_∧CS _ _ _ _ _ _);(with_reducible refine(HM.out _ hH.2.b).mono ?_);rintro e w3 ⟨v3,rfl,ho3,hb3⟩;have c3:=CS.grow hH.2 hb3;clear hH)
        | (have hH:=And.intro (CS.cells HS.out.drew) HS.out.drew;(with_reducible refine(HM.out _ hH.2.b).mono ?_);rintro e w3 ⟨v3,rfl,ho3,hb3⟩;have c3:=CS.grow hH.2 hb3;clear hH))))
 · have hF : Uz w h m n w1.heap.size v3 (Af p item 0) w3:=by
     have hb1w:=(CS.b c1).size
     refine⟨c3.b,c3.m,(AB.new w1 _ _).below hb3 (by simp),by have:=c1.m.lt;omega,hb1w,?_⟩
     rcases ho3.row with h0|⟨Lb,c',cs,e,hLb,hR,_,_⟩
     · exact .inl h0
     · exact .inr ⟨Lb,c',cs,e,by simp at hLb;omega,hR⟩
   obtain⟨A3,k3,rfl,_⟩:=ho3.form
   clear c1 c3 hb1 hb3 ho3
   revert hF
   generalize w1.heap.size=g
   intro hF
   obtain⟨L,hL⟩:∃ L,L=Af p item 0:=⟨_,rfl⟩
   have HL:=hide hL
   rw[← hL] at hF ⊢
   have hLl:L.length≤1000:=by rw[hL];exact HML.out
   have HF:=hide hF
   clear hL hF
   go_wp2_with fail
   go_loopw [11] (fun i wr=>∃ k:Nat,k≤L.length∧i=.int .i64 k∧Hid (Am g w3 wr∧AB wr g 3 ((Ag m by_ (L.take k)).map (Value.int .i64)).toArray)) (fun i _=>L.length - (intOf i).toNat)
   case atStart =>
    refine⟨0,Nat.zero_le _,rfl,⟨rfl,rfl,rfl,Nat.le_refl _,fun _ _ _=>rfl⟩,?_⟩
    have:Ag m by_ (L.take 0)=List.replicate n 0:=by rw[List.take_zero,Ha,HNI.out];rfl
    rw[this,show((List.replicate n (0:Int)).map (Value.int .i64)).toArray=Array.replicate n (.int .i64 0) by apply Array.ext <;> simp]
    exact HF.out.z
   case round =>
    obtain⟨k,hk,rfl,hS⟩:=hrel
    by_cases hlt:k<L.length
    · rcases HF.out.v with⟨_,h0⟩|⟨Lb,c',cs,e3,hne,hRow⟩
      · rw[h0] at hlt;exact absurd hlt (by simp)
      · obtain ⟨rfl,rfl⟩:A3=some ⟨Lb,0,none⟩∧k3=c':=by simpa using e3
        obtain⟨x,hx⟩:∃ x,x=L[k]:=⟨_,rfl⟩
        have hB:=hS.out.1.blk hRow.1 hne
        have x0:wr.cell? ⟨Lb,k,none⟩=some (.int .i64 x):=by rw[hB.cell,hRow.2.2 k hlt,hx]
        have xl:=hB.lt
        have HSp:=hide (show Bj w h m ⟨Lb,k,none⟩ x g w3 wr from⟨hS.out.1.blk HF.out.mo HF.out.ne,x0,xl,HF.out.ne,hne,hS.out.1⟩)
        obtain⟨T,hT⟩:∃ T,T=L.take k:=⟨_,rfl⟩
        have hTk:L.take (k+1)=T ++ [x]:=by rw[List.take_succ_eq_append_getElem hlt,hT,hx]
        have hTl:T.length≤1000:=by rw[hT];simp;omega
        have HTK:=hide hTk
        rw[← hT] at hS
        have hbr:Below w.heap.size w wr:=HF.out.b.trans (hS.out.1.toBelow HF.out.le HF.out.b.size)
        have HC:=hide (HD.out wr.drew hbr.drew x)
        have HSL:=hide (DL m by_ T)
        have HLT:=hide hlt
        have hlI:(k:Int)<(L.length:Int):=by omega
        have hk0:(0:Int)≤(k:Int):=by omega
        clear hB hRow hx hT hTk hbr e3 x0 xl hlt
        rcases H7 m by_ x with hd|hd
        · have HDx:=hide hd
          have hlt0:BN m by_ x<1:=by omega
          have HNO:=hide (IM m by_ T hlt0)
          rw[HDx.out] at HC
          clear hd hlt0
          go_wp2_with fail
          obtain⟨a0,a1,a2,a3,a4,a5,a6,a7,a8,a9,a10⟩:=(Bj.cells HSp.out).1
          go_region_held3 (fun W=>((W.cell? ⟨w.heap.size,0,none⟩=some (.slice h.s m.sT.length h.sc)∧W.cell? ⟨w.heap.size,1,none⟩=some (.slice h.f m.fT.length h.fc)∧W.cell? ⟨w.heap.size,2,none⟩=some (.slice h.r m.rT.length h.rc)∧W.cell? ⟨w.heap.size,3,none⟩=some (.slice h.m m.mT.length h.mc)∧W.cell? ⟨w.heap.size,4,none⟩=some (.slice h.l m.lT.length h.lc)∧W.cell? ⟨w.heap.size,5,none⟩=some (.slice h.i m.iT.length h.ic)∧W.cell? ⟨w.heap.size,6,none⟩=some (.int .i64 m.dT)∧W.cell? ⟨w.heap.size,7,none⟩=some (.int .i64 m.oT)∧W.cell? ⟨w.heap.size,8,none⟩=some (.int .i64 m.vT)∧W.cell? ⟨w.heap.size,9,none⟩=some (.int .i64 m.aT)∧W.cell? ⟨w.heap.size,10,none⟩=some (.slice h.u m.uT.length h.uc))∧W.cell? ⟨Lb,k,none⟩=some (.int .i64 x))∧Bj w h m ⟨Lb,k,none⟩ x g w3 W)
           ((with_reducible (first|(go_keep;done)|exact⟨Bj.cells HSp.out.drew,HSp.out.drew⟩|exact⟨Bj.cells c7,c7⟩|(have hH:=(by assumption:_∧Bj _ _ _ _ _ _ _ _);exact⟨Bj.cells (Bj.drew hH.2),Bj.drew hH.2⟩))))
           (((with_reducible refine HC.out.mono ?_);rintro e w9 ⟨rfl,hb9⟩;have HB5:=hide hb9;have c7:=Bj.grow HSp.out.drew hb9;clear hb9))
          have hb5:=HB5.out
          have HZ:=hide (hS.out.2.below ((Below.refl _ _).drew.trans hb5) hS.out.2.lt)
          go_wp2_with fail
          go_roundw
          case rel=>exact⟨k+1,HLT.out,by go_num,c7.b,by rw[HTK.out,HNO.out];exact HZ.out⟩
          case measure=>have:=HLT.out;simp[intOf];omega
        · obtain⟨d,hd1,hd2⟩:∃ d:Nat,BN m by_ x=(d:Int)+1∧d<n:=⟨(BN m by_ x - 1).toNat,by omega,by have:=HNI.out;omega⟩
          have hds:d<(Ag m by_ T).length:=by rw[HSL.out,HNI.out];simpa using hd2
          have HYS:=hide (Hd m by_ T hd1 hds)
          have hle:=IL m by_ T hds
          obtain⟨s,hs⟩:∃ s,s=(Ag m by_ T)[d]:=⟨_,rfl⟩
          rw[← hs] at HYS hle
          have hs0:0≤s:=hle.1
          have hs1:s≤1000:=by omega
          have HCL:=hide (show((Ag m by_ T).map (Value.int .i64)).toArray[d]? = some (.int .i64 s) by simp[hds,hs])
          have hdI:(d:Int)<(n:Int):=by omega
          have hd0:(0:Int)≤(d:Int):=by omega
          rw[hd1] at HC
          clear hd hd1 hle hs
          go_wp2_with fail
          obtain⟨a0,a1,a2,a3,a4,a5,a6,a7,a8,a9,a10⟩:=(Bj.cells HSp.out).1
          go_region_held3 (fun W=>((W.cell? ⟨w.heap.size,0,none⟩=some (.slice h.s m.sT.length h.sc)∧W.cell? ⟨w.heap.size,1,none⟩=some (.slice h.f m.fT.length h.fc)∧W.cell? ⟨w.heap.size,2,none⟩=some (.slice h.r m.rT.length h.rc)∧W.cell? ⟨w.heap.size,3,none⟩=some (.slice h.m m.mT.length h.mc)∧W.cell? ⟨w.heap.size,4,none⟩=some (.slice h.l m.lT.length h.lc)∧W.cell? ⟨w.heap.size,5,none⟩=some (.slice h.i m.iT.length h.ic)∧W.cell? ⟨w.heap.size,6,none⟩=some (.int .i64 m.dT)∧W.cell? ⟨w.heap.size,7,none⟩=some (.int .i64 m.oT)∧W.cell? ⟨w.heap.size,8,none⟩=some (.int .i64 m.vT)∧W.cell? ⟨w.heap.size,9,none⟩=some (.int .i64 m.aT)∧W.cell? ⟨w.heap.size,10,none⟩=some (.slice h.u m.uT.length h.uc))∧W.cell? ⟨Lb,k,none⟩=some (.int .i64 x))∧Bj w h m ⟨Lb,k,none⟩ x g w3 W)
           ((with_reducible (first|(go_keep;done)|exact⟨Bj.cells HSp.out.drew,HSp.out.drew⟩|exact⟨Bj.cells c7,c7⟩|(have hH:=(by assumption:_∧Bj _ _ _ _ _ _ _ _);exact⟨Bj.cells (Bj.drew hH.2),Bj.drew hH.2⟩))))
           (((with_reducible refine HC.out.mono ?_);rintro e w9 ⟨rfl,hb9⟩;have HB5:=hide hb9;have c7:=Bj.grow HSp.out.drew hb9;clear hb9))
          have hG5:=hS.out.2.below ((Below.refl _ _).drew.trans HB5.out) hS.out.2.lt
          have g0:w9.cell? ⟨g,d,none⟩=some (.int .i64 s):=by rw[hG5.cell,HCL.out]
          have gf:=hG5.frozen d
          have gl:=hG5.lt
          have HG5:=hide hG5
          have HBS:=hide c7.b
          clear c7 hG5
          go_wp2_with fail
          go_roundw
          case rel=>exact⟨k+1,HLT.out,by go_num,HBS.out.trans (Am.set_ _ _ _),by
           rw[HTK.out,HYS.out]
           have:=HG5.out.set_ d (.int .i64 (s+1))
           simpa[List.map_set] using this⟩
          case measure=>have:=HLT.out;simp[intOf];omega
    · obtain rfl:k=L.length:=by omega
      have hS:=hS.out
      rw[List.take_length] at hS
      have HSx:=hide hS
      clear hS
      go_wp2_with fail
      go_ret
      have hlen:(BU m p item by_).length=n:=by rw[Dc,DL,HNI.out];rfl
      have hx:maxLen=9223372036854775807:=by decide
      have hsp:BU m p item by_=Ag m by_ L:=by rw[Dc,HL.out]
      have:=F8.own (B:=w.heap.size) (w:=wr) (L:=g) (c:=n) (cs:=((Ag m by_ L).map (Value.int .i64)).toArray) (l:=BU m p item by_) ⟨HSx.out.2,by rw[hsp];simp,fun j hj=>by rw[hsp] at hj;simp[hsp,hj]⟩ HF.out.le (by rw[← hlen,hsp];simp) (by omega)
      rw[hlen] at this
      exact⟨_,rfl,this,HF.out.b.trans (HSx.out.1.toBelow HF.out.le HF.out.b.size)⟩
 · have hF : Uz w h m n w3.heap.size v3 (Af p item 0) (w3.alloc (.cells (Array.replicate n (.int .i64 0)) 3)):=by
     have hb3w:=(CS.b c3).size
     refine⟨c3.b.alloc hb3w _,c3.m.alloc _,AB.new w3 _ _,by have:=c3.m.lt;omega,hb3w,?_⟩
     rcases ho3.row with h0|⟨Lb,c',cs,e,hLb,hR,_,_⟩
     · exact .inl h0
     · exact .inr ⟨Lb,c',cs,e,by have:=AB.lt hR.1;omega,⟨hR.1.alloc _,hR.2⟩⟩
   obtain⟨A3,k3,rfl,_⟩:=ho3.form
   clear c1 c3 hb1 hb3 ho3
   revert hF
   generalize w3.alloc (.cells (Array.replicate n (.int .i64 0)) 3)=w5
   generalize w3.heap.size=g
   intro hF
   obtain⟨L,hL⟩:∃ L,L=Af p item 0:=⟨_,rfl⟩
   have HL:=hide hL
   rw[← hL] at hF ⊢
   have hLl:L.length≤1000:=by rw[hL];exact HML.out
   have HF:=hide hF
   clear hL hF
   go_wp2_with fail
   go_loopw [11] (fun i wr=>∃ k:Nat,k≤L.length∧i=.int .i64 k∧Hid (Am g w5 wr∧AB wr g 3 ((Ag m by_ (L.take k)).map (Value.int .i64)).toArray)) (fun i _=>L.length - (intOf i).toNat)
   case atStart =>
    refine⟨0,Nat.zero_le _,rfl,⟨rfl,rfl,rfl,Nat.le_refl _,fun _ _ _=>rfl⟩,?_⟩
    have:Ag m by_ (L.take 0)=List.replicate n 0:=by rw[List.take_zero,Ha,HNI.out];rfl
    rw[this,show((List.replicate n (0:Int)).map (Value.int .i64)).toArray=Array.replicate n (.int .i64 0) by apply Array.ext <;> simp]
    exact HF.out.z
   case round =>
    obtain⟨k,hk,rfl,hS⟩:=hrel
    by_cases hlt:k<L.length
    · rcases HF.out.v with⟨_,h0⟩|⟨Lb,c',cs,e3,hne,hRow⟩
      · rw[h0] at hlt;exact absurd hlt (by simp)
      · obtain ⟨rfl,rfl⟩:A3=some ⟨Lb,0,none⟩∧k3=c':=by simpa using e3
        obtain⟨x,hx⟩:∃ x,x=L[k]:=⟨_,rfl⟩
        have hB:=hS.out.1.blk hRow.1 hne
        have x0:wr.cell? ⟨Lb,k,none⟩=some (.int .i64 x):=by rw[hB.cell,hRow.2.2 k hlt,hx]
        have xl:=hB.lt
        have HSp:=hide (show Bj w h m ⟨Lb,k,none⟩ x g w5 wr from⟨hS.out.1.blk HF.out.mo HF.out.ne,x0,xl,HF.out.ne,hne,hS.out.1⟩)
        obtain⟨T,hT⟩:∃ T,T=L.take k:=⟨_,rfl⟩
        have hTk:L.take (k+1)=T ++ [x]:=by rw[List.take_succ_eq_append_getElem hlt,hT,hx]
        have hTl:T.length≤1000:=by rw[hT];simp;omega
        have HTK:=hide hTk
        rw[← hT] at hS
        have hbr:Below w.heap.size w wr:=HF.out.b.trans (hS.out.1.toBelow HF.out.le HF.out.b.size)
        have HC:=hide (HD.out wr.drew hbr.drew x)
        have HSL:=hide (DL m by_ T)
        have HLT:=hide hlt
        have hlI:(k:Int)<(L.length:Int):=by omega
        have hk0:(0:Int)≤(k:Int):=by omega
        clear hB hRow hx hT hTk hbr e3 x0 xl hlt
        rcases H7 m by_ x with hd|hd
        · have HDx:=hide hd
          have hlt0:BN m by_ x<1:=by omega
          have HNO:=hide (IM m by_ T hlt0)
          rw[HDx.out] at HC
          clear hd hlt0
          go_wp2_with fail
          obtain⟨a0,a1,a2,a3,a4,a5,a6,a7,a8,a9,a10⟩:=(Bj.cells HSp.out).1
          go_region_held3 (fun W=>((W.cell? ⟨w.heap.size,0,none⟩=some (.slice h.s m.sT.length h.sc)∧W.cell? ⟨w.heap.size,1,none⟩=some (.slice h.f m.fT.length h.fc)∧W.cell? ⟨w.heap.size,2,none⟩=some (.slice h.r m.rT.length h.rc)∧W.cell? ⟨w.heap.size,3,none⟩=some (.slice h.m m.mT.length h.mc)∧W.cell? ⟨w.heap.size,4,none⟩=some (.slice h.l m.lT.length h.lc)∧W.cell? ⟨w.heap.size,5,none⟩=some (.slice h.i m.iT.length h.ic)∧W.cell? ⟨w.heap.size,6,none⟩=some (.int .i64 m.dT)∧W.cell? ⟨w.heap.size,7,none⟩=some (.int .i64 m.oT)∧W.cell? ⟨w.heap.size,8,none⟩=some (.int .i64 m.vT)∧W.cell? ⟨w.heap.size,9,none⟩=some (.int .i64 m.aT)∧W.cell? ⟨w.heap.size,10,none⟩=some (.slice h.u m.uT.length h.uc))∧W.cell? ⟨Lb,k,none⟩=some (.int .i64 x))∧Bj w h m ⟨Lb,k,none⟩ x g w5 W)
           ((with_reducible (first|(go_keep;done)|exact⟨Bj.cells HSp.out.drew,HSp.out.drew⟩|exact⟨Bj.cells c7,c7⟩|(have hH:=(by assumption:_∧Bj _ _ _ _ _ _ _ _);exact⟨Bj.cells (Bj.drew hH.2),Bj.drew hH.2⟩))))
           (((with_reducible refine HC.out.mono ?_);rintro e w9 ⟨rfl,hb9⟩;have HB5:=hide hb9;have c7:=Bj.grow HSp.out.drew hb9;clear hb9))
          have hb5:=HB5.out
          have HZ:=hide (hS.out.2.below ((Below.refl _ _).drew.trans hb5) hS.out.2.lt)
          go_wp2_with fail
          go_roundw
          case rel=>exact⟨k+1,HLT.out,by go_num,c7.b,by rw[HTK.out,HNO.out];exact HZ.out⟩
          case measure=>have:=HLT.out;simp[intOf];omega
        · obtain⟨d,hd1,hd2⟩:∃ d:Nat,BN m by_ x=(d:Int)+1∧d<n:=⟨(BN m by_ x - 1).toNat,by omega,by have:=HNI.out;omega⟩
          have hds:d<(Ag m by_ T).length:=by rw[HSL.out,HNI.out];simpa using hd2
          have HYS:=hide (Hd m by_ T hd1 hds)
          have hle:=IL m by_ T hds
          obtain⟨s,hs⟩:∃ s,s=(Ag m by_ T)[d]:=⟨_,rfl⟩
          rw[← hs] at HYS hle
          have hs0:0≤s:=hle.1
          have hs1:s≤1000:=by omega
          have HCL:=hide (show((Ag m by_ T).map (Value.int .i64)).toArray[d]? = some (.int .i64 s) by simp[hds,hs])
          have hdI:(d:Int)<(n:Int):=by omega
          have hd0:(0:Int)≤(d:Int):=by omega
          rw[hd1] at HC
          clear hd hd1 hle hs
          go_wp2_with fail
          obtain⟨a0,a1,a2,a3,a4,a5,a6,a7,a8,a9,a10⟩:=(Bj.cells HSp.out).1
          go_region_held3 (fun W=>((W.cell? ⟨w.heap.size,0,none⟩=some (.slice h.s m.sT.length h.sc)∧W.cell? ⟨w.heap.size,1,none⟩=some (.slice h.f m.fT.length h.fc)∧W.cell? ⟨w.heap.size,2,none⟩=some (.slice h.r m.rT.length h.rc)∧W.cell? ⟨w.heap.size,3,none⟩=some (.slice h.m m.mT.length h.mc)∧W.cell? ⟨w.heap.size,4,none⟩=some (.slice h.l m.lT.length h.lc)∧W.cell? ⟨w.heap.size,5,none⟩=some (.slice h.i m.iT.length h.ic)∧W.cell? ⟨w.heap.size,6,none⟩=some (.int .i64 m.dT)∧W.cell? ⟨w.heap.size,7,none⟩=some (.int .i64 m.oT)∧W.cell? ⟨w.heap.size,8,none⟩=some (.int .i64 m.vT)∧W.cell? ⟨w.heap.size,9,none⟩=some (.int .i64 m.aT)∧W.cell? ⟨w.heap.size,10,none⟩=some (.slice h.u m.uT.length h.uc))∧W.cell? ⟨Lb,k,none⟩=some (.int .i64 x))∧Bj w h m ⟨Lb,k,none⟩ x g w5 W)
           ((with_reducible (first|(go_keep;done)|exact⟨Bj.cells HSp.out.drew,HSp.out.drew⟩|exact⟨Bj.cells c7,c7⟩|(have hH:=(by assumption:_∧Bj _ _ _ _ _ _ _ _);exact⟨Bj.cells (Bj.drew hH.2),Bj.drew hH.2⟩))))
           (((with_reducible refine HC.out.mono ?_);rintro e w9 ⟨rfl,hb9⟩;have HB5:=hide hb9;have c7:=Bj.grow HSp.out.drew hb9;clear hb9))
          have hG5:=hS.out.2.below ((Below.refl _ _).drew.trans HB5.out) hS.out.2.lt
          have g0:w9.cell? ⟨g,d,none⟩=some (.int .i64 s):=by rw[hG5.cell,HCL.out]
          have gf:=hG5.frozen d
          have gl:=hG5.lt
          have HG5:=hide hG5
          have HBS:=hide c7.b
          clear c7 hG5
          go_wp2_with fail
          go_roundw
          case rel=>exact⟨k+1,HLT.out,by go_num,HBS.out.trans (Am.set_ _ _ _),by
           rw[HTK.out,HYS.out]
           have:=HG5.out.set_ d (.int .i64 (s+1))
           simpa[List.map_set] using this⟩
          case measure=>have:=HLT.out;simp[intOf];omega
    · obtain rfl:k=L.length:=by omega
      have hS:=hS.out
      rw[List.take_length] at hS
      have HSx:=hide hS
      clear hS
      go_wp2_with fail
      go_ret
      have hlen:(BU m p item by_).length=n:=by rw[Dc,DL,HNI.out];rfl
      have hx:maxLen=9223372036854775807:=by decide
      have hsp:BU m p item by_=Ag m by_ L:=by rw[Dc,HL.out]
      have:=F8.own (B:=w.heap.size) (w:=wr) (L:=g) (c:=n) (cs:=((Ag m by_ L).map (Value.int .i64)).toArray) (l:=BU m p item by_) ⟨HSx.out.2,by rw[hsp];simp,fun j hj=>by rw[hsp] at hj;simp[hsp,hj]⟩ HF.out.le (by rw[← hlen,hsp];simp) (by omega)
      rw[hlen] at this
      exact⟨_,rfl,this,HF.out.b.trans (HSx.out.1.toBelow HF.out.le HF.out.b.size)⟩
theorem Nc (h : MH) (m:AC) (x:AR) (A:Option Addr) (c:Nat) (Ap:Option Addr) (cp:Nat) (p:AA) (w:World) (d:MD w w.heap.size h m) (hp:PR w w.heap.size Ap p) (hl:p.length≤1000) (hul:(AQ p x.item).length≤1000) (hd:AZ m x.by_≤100) :
    Calls Tryz.prog 199 #[.agg #[.slice h.s m.sT.length h.sc,.slice h.f m.fT.length h.fc,.slice h.r m.rT.length h.rc,.slice h.m m.mT.length h.mc,.slice h.l m.lT.length h.lc,.slice h.i m.iT.length h.ic,.int .i64 m.dT,.int .i64 m.oT,.int .i64 m.vT,.int .i64 m.aT,.slice h.u m.uT.length h.uc],.agg #[.int .i64 x.kind,.int .i64 x.item,.int .i64 x.other,.int .i64 x.n,.int .i64 x.by_,.bool x.always,.slice A x.machines.length c],.agg #[.slice Ap p.length cp]] w (Ce w (.int .i64 (CU m x p))):=by
 obtain⟨w0,e0⟩:∃ w0,w0=((w.alloc (.cells #[.slice h.s m.sT.length h.sc,.slice h.f m.fT.length h.fc,.slice h.r m.rT.length h.rc,.slice h.m m.mT.length h.mc,.slice h.l m.lT.length h.lc,.slice h.i m.iT.length h.ic,.int .i64 m.dT,.int .i64 m.oT,.int .i64 m.vT,.int .i64 m.aT,.slice h.u m.uT.length h.uc] 29)).alloc (.cells #[.int .i64 x.kind,.int .i64 x.item,.int .i64 x.other,.int .i64 x.n,.int .i64 x.by_,.bool x.always,.slice A x.machines.length c] 51)).alloc (.cells #[.slice Ap p.length cp] 56):=⟨_,rfl⟩
 have hb0:Below w.heap.size w w0:=by rw[e0];exact(((Below.refl w.heap.size w).alloc (Nat.le_refl _) _).alloc (by simp) _).alloc (by simp;omega) _
 have HR0:=hide (show AB w0 (w.heap.size+1) 51 #[.int .i64 x.kind,.int .i64 x.item,.int .i64 x.other,.int .i64 x.n,.int .i64 x.by_,.bool x.always,.slice A x.machines.length c] by
  rw[e0]
  have:=(AB.new (w.alloc (.cells #[.slice h.s m.sT.length h.sc,.slice h.f m.fT.length h.fc,.slice h.r m.rT.length h.rc,.slice h.m m.mT.length h.mc,.slice h.l m.lT.length h.lc,.slice h.i m.iT.length h.ic,.int .i64 m.dT,.int .i64 m.oT,.int .i64 m.vT,.int .i64 m.aT,.slice h.u m.uT.length h.uc] 29)) 51 #[.int .i64 x.kind,.int .i64 x.item,.int .i64 x.other,.int .i64 x.n,.int .i64 x.by_,.bool x.always,.slice A x.machines.length c]).alloc (.cells #[.slice Ap p.length cp] 56)
  simpa using this)
 have HB:=hide hb0
 have HS:=hide (QC h m Ap cp p x.item x.by_ w0 (d.grow hb0) (hp.grow hb0) hl hul hd)
 have hsl:(BU m p x.item x.by_).length≤100:=by rw[Dc,DL];have:=Cw m x.by_;omega
 have HCR:=hide (Gw m x p)
 have HE:=hide e0
 obtain⟨L,hL⟩:∃ L,L=BU m p x.item x.by_:=⟨_,rfl⟩
 rw[← hL] at HS hsl HCR
 clear hb0 d hp hd hL e0
 go_enter Tryz.func199,Tryz.ntmps199
 go_wp2_with (rw[← HE.out];go_at_call 220;refine HS.out.mono ?_;rintro e w1 ⟨v1,rfl,ho1,hb1⟩
              obtain⟨A1,c1,rfl,_,hI1⟩:=ho1.form
              have HR1:=hide (HR0.out.below hb1 HR0.out.lt)
              have HB1:=hide (HB.out.trans (hb1.mono HB.out.size))
              have HI1:=hide hI1
              clear ho1 hb1 hI1)
 clear HR0
 go_loopw [8] (fun i wr=>∃ k:Nat,k≤L.length∧i=.int .i64 k∧Below w1.heap.size w1 wr∧Hid (∀ j (hj:j<L.length),j<k→(fun n=>decide (x.n<n)) L[j]=false)) (fun i _=>L.length - (intOf i).toNat)
 case atStart=>exact⟨0,Nat.zero_le _,rfl,Below.refl _ _,fun j hj h0=>absurd h0 (by omega)⟩
 case round =>
  obtain⟨k,hk,rfl,hbr,hs⟩:=hrel
  by_cases hlt:k<L.length
  · obtain ⟨b,off,hA,hb,x0⟩:=Dy HI1.out hlt
    subst hA
    obtain⟨y,hy⟩:∃ y,y=L[k]:=⟨_,rfl⟩
    rw[← hy] at x0
    have HY:=hide hy
    have HRB:=HR1.out.below hbr HR1.out.lt
    have y3:=HRB.cell 3
    have yl:=HRB.lt
    simp at y3
    have z0:=(hbr.cell (p:=⟨b,off+k,none⟩) hb).trans x0
    have zl:=Nat.lt_of_lt_of_le hb hbr.size
    have HBR:=hide hbr
    have HLT:=hide hlt
    have hlI:(k:Int)<(L.length:Int):=by omega
    clear hy HRB x0 hb hbr
    have hB:∀ b:Bool,b=false∨b=true:=fun b=>by cases b <;> simp
    rcases hB (decide (x.n<y)) with hq|hq
    · have HQ:=hide hq
      go_wp2_with fail
      go_quiet (fail)
      go_wp2_with fail
      go_roundw
      case rel=>exact⟨k+1,HLT.out,by go_num,AY HBR.out _,fun j hj h1=>by
       rcases Nat.lt_or_ge j k with h2|h2
       · exact hs.out j hj h2
       · obtain rfl:j=k:=by omega
         rw[← HY.out];exact HQ.out⟩
      case measure=>have:=HLT.out;simp[intOf];omega
    · have HF:=hide (CF (p:=fun n=>decide (x.n<n)) hlt (by rw[← HY.out];exact hq) hs.out)
      go_wp2_with fail
      go_quiet (fail)
      go_wp2_with fail
      go_ret
      exact⟨AJ (by rw[HCR.out,HF.out];rfl),HB1.out.trans ((AY HBR.out _).mono HB1.out.size)⟩
  · have HF:=hide (Ba (p:=fun n=>decide (x.n<n)) fun j hj=>hs.out j hj (by omega))
    obtain rfl:k=L.length:=by omega
    go_wp2_with fail
    go_ret
    exact⟨AJ (by rw[HCR.out,HF.out];rfl),HB1.out.trans (hbr.mono HB1.out.size)⟩
end Go.Proofs.YtfemlajeomohhaaGreatDoor
