/- A part of the claim: see its last text. -/
import Derived.Test.YtfemlajeomohhaaGreatDoorUK39

set_option maxRecDepth 100000
set_option maxHeartbeats 16000000
namespace Go.Proofs.YtfemlajeomohhaaGreatDoor
open Go Go.RowKit Go.Proofs
theorem TL (h:MH) (m:AC) (F:Ht m) (x:AR) (A:Option Addr) (c:Nat) (w:World) (g0:(x.kind == 0)=true) :
    Calls Tryz.prog 132 #[.agg #[.slice h.s m.sT.length h.sc,.slice h.f m.fT.length h.fc,.slice h.r m.rT.length h.rc,.slice h.m m.mT.length h.mc,.slice h.l m.lT.length h.lc,.slice h.i m.iT.length h.ic,.int .i64 m.dT,.int .i64 m.oT,.int .i64 m.vT,.int .i64 m.aT,.slice h.u m.uT.length h.uc],.agg #[.int .i64 x.kind,.int .i64 x.item,.int .i64 x.other,.int .i64 x.n,.int .i64 x.by_,.bool x.always,.slice A x.machines.length c]] w (Ej w (EW m)):=by
 have HB:=hide (show Below w.heap.size w ((w.alloc (.cells #[.slice h.s m.sT.length h.sc,.slice h.f m.fT.length h.fc,.slice h.r m.rT.length h.rc,.slice h.m m.mT.length h.mc,.slice h.l m.lT.length h.lc,.slice h.i m.iT.length h.ic,.int .i64 m.dT,.int .i64 m.oT,.int .i64 m.vT,.int .i64 m.aT,.slice h.u m.uT.length h.uc] 29)).alloc (.cells #[.int .i64 x.kind,.int .i64 x.item,.int .i64 x.other,.int .i64 x.n,.int .i64 x.by_,.bool x.always,.slice A x.machines.length c] 51)) from((Below.refl w.heap.size w).alloc (Nat.le_refl _) _).alloc (by simp) _)
 have HC:=hide (LF h m F.cm F.cr F.ce F.cs ((w.alloc (.cells #[.slice h.s m.sT.length h.sc,.slice h.f m.fT.length h.fc,.slice h.r m.rT.length h.rc,.slice h.m m.mT.length h.mc,.slice h.l m.lT.length h.lc,.slice h.i m.iT.length h.ic,.int .i64 m.dT,.int .i64 m.oT,.int .i64 m.vT,.int .i64 m.aT,.slice h.u m.uT.length h.uc] 29)).alloc (.cells #[.int .i64 x.kind,.int .i64 x.item,.int .i64 x.other,.int .i64 x.n,.int .i64 x.by_,.bool x.always,.slice A x.machines.length c] 51)))
 go_enter Tryz.func132,Tryz.ntmps132
 go_wp2_with (go_at_call 196;refine HC.out.mono ?_;rintro e w1 ⟨v,rfl,ho,hb⟩;have HO:=hide ho;have HB1:=hide hb;clear ho hb)
 go_ret
 exact⟨v,rfl,Fw HO.out HB.out.size,HB.out.trans (HB1.out.mono HB.out.size)⟩
theorem Rl (h:MH) (m:AC) (F:Ht m) (x:AR) (A:Option Addr) (c:Nat) (w:World) (g0:(x.kind == 0)=false) (g1:(x.kind == 1)=true) (g2:x.always=false) :
    Calls Tryz.prog 132 #[.agg #[.slice h.s m.sT.length h.sc,.slice h.f m.fT.length h.fc,.slice h.r m.rT.length h.rc,.slice h.m m.mT.length h.mc,.slice h.l m.lT.length h.lc,.slice h.i m.iT.length h.ic,.int .i64 m.dT,.int .i64 m.oT,.int .i64 m.vT,.int .i64 m.aT,.slice h.u m.uT.length h.uc],.agg #[.int .i64 x.kind,.int .i64 x.item,.int .i64 x.other,.int .i64 x.n,.int .i64 x.by_,.bool x.always,.slice A x.machines.length c]] w (Ej w (EW m)):=by
 have HB:=hide (show Below w.heap.size w ((w.alloc (.cells #[.slice h.s m.sT.length h.sc,.slice h.f m.fT.length h.fc,.slice h.r m.rT.length h.rc,.slice h.m m.mT.length h.mc,.slice h.l m.lT.length h.lc,.slice h.i m.iT.length h.ic,.int .i64 m.dT,.int .i64 m.oT,.int .i64 m.vT,.int .i64 m.aT,.slice h.u m.uT.length h.uc] 29)).alloc (.cells #[.int .i64 x.kind,.int .i64 x.item,.int .i64 x.other,.int .i64 x.n,.int .i64 x.by_,.bool false,.slice A x.machines.length c] 51)) from((Below.refl w.heap.size w).alloc (Nat.le_refl _) _).alloc (by simp) _)
 rw[g2]
 have HC:=hide (LF h m F.cm F.cr F.ce F.cs ((w.alloc (.cells #[.slice h.s m.sT.length h.sc,.slice h.f m.fT.length h.fc,.slice h.r m.rT.length h.rc,.slice h.m m.mT.length h.mc,.slice h.l m.lT.length h.lc,.slice h.i m.iT.length h.ic,.int .i64 m.dT,.int .i64 m.oT,.int .i64 m.vT,.int .i64 m.aT,.slice h.u m.uT.length h.uc] 29)).alloc (.cells #[.int .i64 x.kind,.int .i64 x.item,.int .i64 x.other,.int .i64 x.n,.int .i64 x.by_,.bool false,.slice A x.machines.length c] 51)))
 go_enter Tryz.func132,Tryz.ntmps132
 go_wp2_with (go_at_call 196;refine HC.out.mono ?_;rintro e w1 ⟨v,rfl,ho,hb⟩;have HO:=hide ho;have HB1:=hide hb;clear ho hb)
 go_ret
 exact⟨v,rfl,Fw HO.out HB.out.size,HB.out.trans (HB1.out.mono HB.out.size)⟩
theorem Rm (h:MH) (m:AC) (x:AR) (A:Option Addr) (c:Nat) (w:World) (g0:(x.kind == 0)=false) (g1:(x.kind == 1)=true) (g2:x.always=true) :
    Calls Tryz.prog 132 #[.agg #[.slice h.s m.sT.length h.sc,.slice h.f m.fT.length h.fc,.slice h.r m.rT.length h.rc,.slice h.m m.mT.length h.mc,.slice h.l m.lT.length h.lc,.slice h.i m.iT.length h.ic,.int .i64 m.dT,.int .i64 m.oT,.int .i64 m.vT,.int .i64 m.aT,.slice h.u m.uT.length h.uc],.agg #[.int .i64 x.kind,.int .i64 x.item,.int .i64 x.other,.int .i64 x.n,.int .i64 x.by_,.bool x.always,.slice A x.machines.length c]] w (Ej w [(0,0)]):=by
 have HB:=hide (show Below w.heap.size w ((w.alloc (.cells #[.slice h.s m.sT.length h.sc,.slice h.f m.fT.length h.fc,.slice h.r m.rT.length h.rc,.slice h.m m.mT.length h.mc,.slice h.l m.lT.length h.lc,.slice h.i m.iT.length h.ic,.int .i64 m.dT,.int .i64 m.oT,.int .i64 m.vT,.int .i64 m.aT,.slice h.u m.uT.length h.uc] 29)).alloc (.cells #[.int .i64 x.kind,.int .i64 x.item,.int .i64 x.other,.int .i64 x.n,.int .i64 x.by_,.bool true,.slice A x.machines.length c] 51)) from((Below.refl w.heap.size w).alloc (Nat.le_refl _) _).alloc (by simp) _)
 rw[g2]
 have HO:=hide (CP.one ((w.alloc (.cells #[.slice h.s m.sT.length h.sc,.slice h.f m.fT.length h.fc,.slice h.r m.rT.length h.rc,.slice h.m m.mT.length h.mc,.slice h.l m.lT.length h.lc,.slice h.i m.iT.length h.ic,.int .i64 m.dT,.int .i64 m.oT,.int .i64 m.vT,.int .i64 m.aT,.slice h.u m.uT.length h.uc] 29)).alloc (.cells #[.int .i64 x.kind,.int .i64 x.item,.int .i64 x.other,.int .i64 x.n,.int .i64 x.by_,.bool true,.slice A x.machines.length c] 51)) HB.out.size (0,0))
 have HB2:=hide (HB.out.alloc HB.out.size (.cells #[.int .i64 0,.int .i64 0] 109))
 go_enter Tryz.func132,Tryz.ntmps132
 go_wp2_with fail
 go_ret
 exact⟨_,rfl,by simpa using HO.out,HB2.out⟩
theorem TM (h:MH) (m:AC) (x:AR) (A:Option Addr) (c:Nat) (w:World) (g0:(x.kind == 0)=false) (g1:(x.kind == 1)=false) :
    Calls Tryz.prog 132 #[.agg #[.slice h.s m.sT.length h.sc,.slice h.f m.fT.length h.fc,.slice h.r m.rT.length h.rc,.slice h.m m.mT.length h.mc,.slice h.l m.lT.length h.lc,.slice h.i m.iT.length h.ic,.int .i64 m.dT,.int .i64 m.oT,.int .i64 m.vT,.int .i64 m.aT,.slice h.u m.uT.length h.uc],.agg #[.int .i64 x.kind,.int .i64 x.item,.int .i64 x.other,.int .i64 x.n,.int .i64 x.by_,.bool x.always,.slice A x.machines.length c]] w (Ej w [(0,0)]):=by
 have HB:=hide (show Below w.heap.size w ((w.alloc (.cells #[.slice h.s m.sT.length h.sc,.slice h.f m.fT.length h.fc,.slice h.r m.rT.length h.rc,.slice h.m m.mT.length h.mc,.slice h.l m.lT.length h.lc,.slice h.i m.iT.length h.ic,.int .i64 m.dT,.int .i64 m.oT,.int .i64 m.vT,.int .i64 m.aT,.slice h.u m.uT.length h.uc] 29)).alloc (.cells #[.int .i64 x.kind,.int .i64 x.item,.int .i64 x.other,.int .i64 x.n,.int .i64 x.by_,.bool x.always,.slice A x.machines.length c] 51)) from((Below.refl w.heap.size w).alloc (Nat.le_refl _) _).alloc (by simp) _)
 have HO:=hide (CP.one ((w.alloc (.cells #[.slice h.s m.sT.length h.sc,.slice h.f m.fT.length h.fc,.slice h.r m.rT.length h.rc,.slice h.m m.mT.length h.mc,.slice h.l m.lT.length h.lc,.slice h.i m.iT.length h.ic,.int .i64 m.dT,.int .i64 m.oT,.int .i64 m.vT,.int .i64 m.aT,.slice h.u m.uT.length h.uc] 29)).alloc (.cells #[.int .i64 x.kind,.int .i64 x.item,.int .i64 x.other,.int .i64 x.n,.int .i64 x.by_,.bool x.always,.slice A x.machines.length c] 51)) HB.out.size (0,0))
 have HB2:=hide (HB.out.alloc HB.out.size (.cells #[.int .i64 0,.int .i64 0] 109))
 go_enter Tryz.func132,Tryz.ntmps132
 go_wp2_with fail
 go_ret
 exact⟨_,rfl,by simpa using HO.out,HB2.out⟩
theorem Mo (h:MH) (m:AC) (F:Ht m) (x:AR) (A:Option Addr) (c:Nat) (w:World) :
    Calls Tryz.prog 132 #[.agg #[.slice h.s m.sT.length h.sc,.slice h.f m.fT.length h.fc,.slice h.r m.rT.length h.rc,.slice h.m m.mT.length h.mc,.slice h.l m.lT.length h.lc,.slice h.i m.iT.length h.ic,.int .i64 m.dT,.int .i64 m.oT,.int .i64 m.vT,.int .i64 m.aT,.slice h.u m.uT.length h.uc],.agg #[.int .i64 x.kind,.int .i64 x.item,.int .i64 x.other,.int .i64 x.n,.int .i64 x.by_,.bool x.always,.slice A x.machines.length c]] w (Ej w (Ca m x)):=by
 unfold Ca
 by_cases h0:x.kind=0
 · rw[if_pos (.inl h0)];exact TL h m F x A c w (by simpa using h0)
 by_cases h1:x.kind=1
 · rcases (by cases x.always <;> simp:x.always=false∨x.always=true) with hal|hal
   · rw[if_pos (.inr ⟨h1,hal⟩)];exact Rl h m F x A c w (by simpa using h0) (by simpa using h1) hal
   · rw[if_neg (by simp[h0,hal])];exact Rm h m x A c w (by simpa using h0) (by simpa using h1) hal
 · rw[if_neg (by simp[h0,h1])];exact TM h m x A c w (by simpa using h0) (by simpa using h1)
structure H3 (w:World) (M X P:Array Value) (q:Addr) (f:Int×Int) (w1 W:World):Prop where
 m:AB W w.heap.size 29 M
 x:AB W (w.heap.size+1) 51 X
 p:AB W (w.heap.size+1+1) 56 P
 f0:W.cell? q=some (.int .i64 f.1)
 f1:W.cell? ⟨q.block,q.off+1,q.spot⟩=some (.int .i64 f.2)
 lt:q.block<w1.heap.size
 b:Below w1.heap.size w1 W
theorem H3.grow {w:World} {M X P:Array Value} {q:Addr} {f:Int×Int} {w1 W W':World} (s:H3 w M X P q f w1 W) (hb:Below W.heap.size W W'):H3 w M X P q f w1 W' :=
 ⟨s.m.below hb s.m.lt,s.x.below hb s.x.lt,s.p.below hb s.p.lt,(hb.cell (Nat.lt_of_lt_of_le s.lt s.b.size)).trans s.f0,(hb.cell (p:=⟨q.block,q.off+1,q.spot⟩) (Nat.lt_of_lt_of_le s.lt s.b.size)).trans s.f1,s.lt,s.b.trans (hb.mono s.b.size)⟩
theorem H3.drew{w:World}{M X P:Array Value}{q:Addr}{f:Int×Int}{w1 W:World}(s:H3 w M X P q f w1 W):H3 w M X P q f w1 W.drew:=s.grow (Below.refl _ W).drew
theorem H3.cells {w:World} {h:MH} {m:AC} {x:AR} {A Ap:Option Addr} {c cp b off:Nat} {p:AA} {f:Int×Int} {w1 W:World} (s:H3 w #[.slice h.s m.sT.length h.sc,.slice h.f m.fT.length h.fc,.slice h.r m.rT.length h.rc,.slice h.m m.mT.length h.mc,.slice h.l m.lT.length h.lc,.slice h.i m.iT.length h.ic,.int .i64 m.dT,.int .i64 m.oT,.int .i64 m.vT,.int .i64 m.aT,.slice h.u m.uT.length h.uc] #[.int .i64 x.kind,.int .i64 x.item,.int .i64 x.other,.int .i64 x.n,.int .i64 x.by_,.bool x.always,.slice A x.machines.length c] #[.slice Ap p.length cp] ⟨b,off,none⟩ f w1 W) :
    (W.cell? ⟨w.heap.size,0,none⟩=some (.slice h.s m.sT.length h.sc)∧W.cell? ⟨w.heap.size,1,none⟩=some (.slice h.f m.fT.length h.fc)∧W.cell? ⟨w.heap.size,2,none⟩=some (.slice h.r m.rT.length h.rc)∧W.cell? ⟨w.heap.size,3,none⟩=some (.slice h.m m.mT.length h.mc)∧W.cell? ⟨w.heap.size,4,none⟩=some (.slice h.l m.lT.length h.lc)∧W.cell? ⟨w.heap.size,5,none⟩=some (.slice h.i m.iT.length h.ic)∧W.cell? ⟨w.heap.size,6,none⟩=some (.int .i64 m.dT)∧W.cell? ⟨w.heap.size,7,none⟩=some (.int .i64 m.oT)∧W.cell? ⟨w.heap.size,8,none⟩=some (.int .i64 m.vT)∧W.cell? ⟨w.heap.size,9,none⟩=some (.int .i64 m.aT)∧W.cell? ⟨w.heap.size,10,none⟩=some (.slice h.u m.uT.length h.uc))∧(W.cell? ⟨w.heap.size+1,0,none⟩=some (.int .i64 x.kind)∧W.cell? ⟨w.heap.size+1,1,none⟩=some (.int .i64 x.item)∧W.cell? ⟨w.heap.size+1,2,none⟩=some (.int .i64 x.other)∧W.cell? ⟨w.heap.size+1,3,none⟩=some (.int .i64 x.n)∧W.cell? ⟨w.heap.size+1,4,none⟩=some (.int .i64 x.by_)∧W.cell? ⟨w.heap.size+1,5,none⟩=some (.bool x.always)∧W.cell? ⟨w.heap.size+1,6,none⟩=some (.slice A x.machines.length c))∧W.cell? ⟨w.heap.size+1+1,0,none⟩=some (.slice Ap p.length cp)∧W.cell? ⟨b,off,none⟩=some (.int .i64 f.1)∧W.cell? ⟨b,off+1,none⟩=some (.int .i64 f.2) :=
 ⟨MB.cells s.m,⟨s.x.cell 0,s.x.cell 1,s.x.cell 2,s.x.cell 3,s.x.cell 4,s.x.cell 5,s.x.cell 6⟩,s.p.cell 0,s.f0,s.f1⟩
theorem Jb (h : MH) (m:AC) (F:Ht m) (x:AR) (A:Option Addr) (c:Nat) (Ap:Option Addr) (cp:Nat) (p:AA) (w:World) (C:Eh w h m x A Ap p) :
    Calls Tryz.prog 85 #[.agg #[.slice h.s m.sT.length h.sc,.slice h.f m.fT.length h.fc,.slice h.r m.rT.length h.rc,.slice h.m m.mT.length h.mc,.slice h.l m.lT.length h.lc,.slice h.i m.iT.length h.ic,.int .i64 m.dT,.int .i64 m.oT,.int .i64 m.vT,.int .i64 m.aT,.slice h.u m.uT.length h.uc],.agg #[.int .i64 x.kind,.int .i64 x.item,.int .i64 x.other,.int .i64 x.n,.int .i64 x.by_,.bool x.always,.slice A x.machines.length c],.agg #[.slice Ap p.length cp]] w (Ce w (.bool (CB m x p))):=by
 obtain⟨w0,e0⟩:∃ w0,w0=((w.alloc (.cells #[.slice h.s m.sT.length h.sc,.slice h.f m.fT.length h.fc,.slice h.r m.rT.length h.rc,.slice h.m m.mT.length h.mc,.slice h.l m.lT.length h.lc,.slice h.i m.iT.length h.ic,.int .i64 m.dT,.int .i64 m.oT,.int .i64 m.vT,.int .i64 m.aT,.slice h.u m.uT.length h.uc] 29)).alloc (.cells #[.int .i64 x.kind,.int .i64 x.item,.int .i64 x.other,.int .i64 x.n,.int .i64 x.by_,.bool x.always,.slice A x.machines.length c] 51)).alloc (.cells #[.slice Ap p.length cp] 56):=⟨_,rfl⟩
 have hb0:Below w.heap.size w w0:=by rw[e0];exact(((Below.refl w.heap.size w).alloc (Nat.le_refl _) _).alloc (by simp) _).alloc (by simp;omega) _
 have HM0:=hide (show AB w0 w.heap.size 29 #[.slice h.s m.sT.length h.sc,.slice h.f m.fT.length h.fc,.slice h.r m.rT.length h.rc,.slice h.m m.mT.length h.mc,.slice h.l m.lT.length h.lc,.slice h.i m.iT.length h.ic,.int .i64 m.dT,.int .i64 m.oT,.int .i64 m.vT,.int .i64 m.aT,.slice h.u m.uT.length h.uc] by rw[e0];exact((AB.new w _ _).alloc _).alloc _)
 have HX0:=hide (show AB w0 (w.heap.size+1) 51 #[.int .i64 x.kind,.int .i64 x.item,.int .i64 x.other,.int .i64 x.n,.int .i64 x.by_,.bool x.always,.slice A x.machines.length c] by
  rw[e0]
  have:=(AB.new (w.alloc (.cells #[.slice h.s m.sT.length h.sc,.slice h.f m.fT.length h.fc,.slice h.r m.rT.length h.rc,.slice h.m m.mT.length h.mc,.slice h.l m.lT.length h.lc,.slice h.i m.iT.length h.ic,.int .i64 m.dT,.int .i64 m.oT,.int .i64 m.vT,.int .i64 m.aT,.slice h.u m.uT.length h.uc] 29)) 51 #[.int .i64 x.kind,.int .i64 x.item,.int .i64 x.other,.int .i64 x.n,.int .i64 x.by_,.bool x.always,.slice A x.machines.length c]).alloc (.cells #[.slice Ap p.length cp] 56)
  simpa using this)
 have HP0:=hide (show AB w0 (w.heap.size+1+1) 56 #[.slice Ap p.length cp] by
  rw[e0]
  have:=AB.new ((w.alloc (.cells #[.slice h.s m.sT.length h.sc,.slice h.f m.fT.length h.fc,.slice h.r m.rT.length h.rc,.slice h.m m.mT.length h.mc,.slice h.l m.lT.length h.lc,.slice h.i m.iT.length h.ic,.int .i64 m.dT,.int .i64 m.oT,.int .i64 m.vT,.int .i64 m.aT,.slice h.u m.uT.length h.uc] 29)).alloc (.cells #[.int .i64 x.kind,.int .i64 x.item,.int .i64 x.other,.int .i64 x.n,.int .i64 x.by_,.bool x.always,.slice A x.machines.length c] 51)) 56 #[.slice Ap p.length cp]
  simpa using this)
 have HB:=hide hb0
 have HFA:=hide (Mo h m F x A c w0)
 have HC0:=hide (fun W (hW:Below w.heap.size w W) (f:Int×Int)=>Nw h m x A c Ap cp p f W (C.grow hW))
 have HAL:=hide (show CB m x p=(Ca m x).all fun f=>Bf m x p f from rfl)
 have HE:=hide e0
 obtain⟨L,hL⟩:∃ L,L=Ca m x:=⟨_,rfl⟩
 rw[← hL] at HFA HAL
 clear hb0 C hL e0
 go_enter Tryz.func85,Tryz.ntmps85
 go_wp2_with (rw[← HE.out];go_at_call 132;refine HFA.out.mono ?_;rintro e w1 ⟨v1,rfl,ho1,hb1⟩
              obtain⟨A1,c1,rfl,hr1,hl1⟩:=ho1.form
              have HM1:=hide (HM0.out.below hb1 HM0.out.lt)
              have HX1:=hide (HX0.out.below hb1 HX0.out.lt)
              have HP1:=hide (HP0.out.below hb1 HP0.out.lt)
              have HB1:=hide (HB.out.trans (hb1.mono HB.out.size))
              have HR1:=hide hr1
              clear hb1 hr1 ho1)
 clear HM0 HX0 HP0
 go_loopw [8] (fun i wr=>∃ k:Nat,k≤L.length∧i=.int .i64 k∧Below w1.heap.size w1 wr∧Hid (∀ j (hj:j<L.length),j<k→Bf m x p L[j]=true)) (fun i _=>L.length - (intOf i).toNat)
 case atStart=>exact⟨0,Nat.zero_le _,rfl,Below.refl _ _,fun j hj h0=>absurd h0 (by omega)⟩
 case round =>
  obtain⟨k,hk,rfl,hbr,hs⟩:=hrel
  by_cases hlt:k<L.length
  · obtain ⟨b,off,hA,hb,x0,x1⟩:=HR1.out.at_ hlt
    subst hA
    obtain⟨f,hf⟩:∃ f,f=L[k]:=⟨_,rfl⟩
    rw[← hf] at x0 x1
    have HF:=hide hf
    have HS:=hide (show H3 w #[.slice h.s m.sT.length h.sc,.slice h.f m.fT.length h.fc,.slice h.r m.rT.length h.rc,.slice h.m m.mT.length h.mc,.slice h.l m.lT.length h.lc,.slice h.i m.iT.length h.ic,.int .i64 m.dT,.int .i64 m.oT,.int .i64 m.vT,.int .i64 m.aT,.slice h.u m.uT.length h.uc] #[.int .i64 x.kind,.int .i64 x.item,.int .i64 x.other,.int .i64 x.n,.int .i64 x.by_,.bool x.always,.slice A x.machines.length c] #[.slice Ap p.length cp] ⟨b,off+k*2,none⟩ f w1 wr from⟨HM1.out.below hbr HM1.out.lt,HX1.out.below hbr HX1.out.lt,HP1.out.below hbr HP1.out.lt,(hbr.cell (p:=⟨b,off+k*2,none⟩) hb).trans x0,(hbr.cell (p:=⟨b,off+k*2+1,none⟩) hb).trans x1,hb,hbr⟩)
    have HC:=hide (HC0.out wr.drew (HB1.out.trans (HS.out.drew.b.mono HB1.out.size)) f)
    have HLT:=hide hlt
    have hlI:(k:Int)<(L.length:Int):=by omega
    obtain⟨⟨a0,a1,a2,a3,a4,a5,a6,a7,a8,a9,a10⟩,⟨r0,r1,r2,r3,r4,r5,r6⟩,p0,f0,f1⟩:=HS.out.cells
    have al:=HS.out.m.lt
    have rl:=HS.out.x.lt
    have pl:=HS.out.p.lt
    have fl:=Nat.lt_of_lt_of_le hb hbr.size
    clear hf x0 x1 hb hbr
    cases hh:Bf m x p f
    · rw[hh] at HC
      have HQ:=hide hh
      go_wp2_with fail
      go_region_held3 (fun W=>((W.cell? ⟨w.heap.size,0,none⟩=some (.slice h.s m.sT.length h.sc)∧W.cell? ⟨w.heap.size,1,none⟩=some (.slice h.f m.fT.length h.fc)∧W.cell? ⟨w.heap.size,2,none⟩=some (.slice h.r m.rT.length h.rc)∧W.cell? ⟨w.heap.size,3,none⟩=some (.slice h.m m.mT.length h.mc)∧W.cell? ⟨w.heap.size,4,none⟩=some (.slice h.l m.lT.length h.lc)∧W.cell? ⟨w.heap.size,5,none⟩=some (.slice h.i m.iT.length h.ic)∧W.cell? ⟨w.heap.size,6,none⟩=some (.int .i64 m.dT)∧W.cell? ⟨w.heap.size,7,none⟩=some (.int .i64 m.oT)∧W.cell? ⟨w.heap.size,8,none⟩=some (.int .i64 m.vT)∧W.cell? ⟨w.heap.size,9,none⟩=some (.int .i64 m.aT)∧W.cell? ⟨w.heap.size,10,none⟩=some (.slice h.u m.uT.length h.uc))∧(W.cell? ⟨w.heap.size+1,0,none⟩=some (.int .i64 x.kind)∧W.cell? ⟨w.heap.size+1,1,none⟩=some (.int .i64 x.item)∧W.cell? ⟨w.heap.size+1,2,none⟩=some (.int .i64 x.other)∧W.cell? ⟨w.heap.size+1,3,none⟩=some (.int .i64 x.n)∧W.cell? ⟨w.heap.size+1,4,none⟩=some (.int .i64 x.by_)∧W.cell? ⟨w.heap.size+1,5,none⟩=some (.bool x.always)∧W.cell? ⟨w.heap.size+1,6,none⟩=some (.slice A x.machines.length c))∧W.cell? ⟨w.heap.size+1+1,0,none⟩=some (.slice Ap p.length cp)∧W.cell? ⟨b,off+k*2,none⟩=some (.int .i64 f.1)∧W.cell? ⟨b,off+k*2+1,none⟩=some (.int .i64 f.2))∧H3 w #[.slice h.s m.sT.length h.sc,.slice h.f m.fT.length h.fc,.slice h.r m.rT.length h.rc,.slice h.m m.mT.length h.mc,.slice h.l m.lT.length h.lc,.slice h.i m.iT.length h.ic,.int .i64 m.dT,.int .i64 m.oT,.int .i64 m.vT,.int .i64 m.aT,.slice h.u m.uT.length h.uc] #[.int .i64 x.kind,.int .i64 x.item,.int .i64 x.other,.int .i64 x.n,.int .i64 x.by_,.bool x.always,.slice A x.machines.length c] #[.slice Ap p.length cp] ⟨b,off+k*2,none⟩ f w1 W)
       ((with_reducible (first|(go_keep;done)|exact⟨H3.cells HS.out.drew,HS.out.drew⟩|exact⟨H3.cells c7,c7⟩|(have hH:=(by assumption:_∧H3 _ _ _ _ _ _ _ _);exact⟨H3.cells (H3.drew hH.2),H3.drew hH.2⟩))))
       (((with_reducible refine HC.out.mono ?_);rintro e w5 ⟨rfl,hb5⟩;have c7:=H3.grow HS.out.drew hb5))
      go_wp2_with fail
      go_ret
      exact⟨AJ (by rw[HAL.out,List.all_eq_false.2 ⟨f,by rw[HF.out];exact List.getElem_mem _,by rw[HQ.out];simp⟩];rfl),HB1.out.trans (c7.b.mono HB1.out.size)⟩
    · rw [hh] at HC
      have HQ:=hide hh
      go_wp2_with fail
      go_region_held3 (fun W=>((W.cell? ⟨w.heap.size,0,none⟩=some (.slice h.s m.sT.length h.sc)∧W.cell? ⟨w.heap.size,1,none⟩=some (.slice h.f m.fT.length h.fc)∧W.cell? ⟨w.heap.size,2,none⟩=some (.slice h.r m.rT.length h.rc)∧W.cell? ⟨w.heap.size,3,none⟩=some (.slice h.m m.mT.length h.mc)∧W.cell? ⟨w.heap.size,4,none⟩=some (.slice h.l m.lT.length h.lc)∧W.cell? ⟨w.heap.size,5,none⟩=some (.slice h.i m.iT.length h.ic)∧W.cell? ⟨w.heap.size,6,none⟩=some (.int .i64 m.dT)∧W.cell? ⟨w.heap.size,7,none⟩=some (.int .i64 m.oT)∧W.cell? ⟨w.heap.size,8,none⟩=some (.int .i64 m.vT)∧W.cell? ⟨w.heap.size,9,none⟩=some (.int .i64 m.aT)∧W.cell? ⟨w.heap.size,10,none⟩=some (.slice h.u m.uT.length h.uc))∧(W.cell? ⟨w.heap.size+1,0,none⟩=some (.int .i64 x.kind)∧W.cell? ⟨w.heap.size+1,1,none⟩=some (.int .i64 x.item)∧W.cell? ⟨w.heap.size+1,2,none⟩=some (.int .i64 x.other)∧W.cell? ⟨w.heap.size+1,3,none⟩=some (.int .i64 x.n)∧W.cell? ⟨w.heap.size+1,4,none⟩=some (.int .i64 x.by_)∧W.cell? ⟨w.heap.size+1,5,none⟩=some (.bool x.always)∧W.cell? ⟨w.heap.size+1,6,none⟩=some (.slice A x.machines.length c))∧W.cell? ⟨w.heap.size+1+1,0,none⟩=some (.slice Ap p.length cp)∧W.cell? ⟨b,off+k*2,none⟩=some (.int .i64 f.1)∧W.cell? ⟨b,off+k*2+1,none⟩=some (.int .i64 f.2))∧H3 w #[.slice h.s m.sT.length h.sc,.slice h.f m.fT.length h.fc,.slice h.r m.rT.length h.rc,.slice h.m m.mT.length h.mc,.slice h.l m.lT.length h.lc,.slice h.i m.iT.length h.ic,.int .i64 m.dT,.int .i64 m.oT,.int .i64 m.vT,.int .i64 m.aT,.slice h.u m.uT.length h.uc] #[.int .i64 x.kind,.int .i64 x.item,.int .i64 x.other,.int .i64 x.n,.int .i64 x.by_,.bool x.always,.slice A x.machines.length c] #[.slice Ap p.length cp] ⟨b,off+k*2,none⟩ f w1 W)
       ((with_reducible (first|(go_keep;done)|exact⟨H3.cells HS.out.drew,HS.out.drew⟩|exact⟨H3.cells c7,c7⟩|(have hH:=(by assumption:_∧H3 _ _ _ _ _ _ _ _);exact⟨H3.cells (H3.drew hH.2),H3.drew hH.2⟩))))
       (((with_reducible refine HC.out.mono ?_);rintro e w5 ⟨rfl,hb5⟩;have c7:=H3.grow HS.out.drew hb5))
      go_wp2_with fail
      go_roundw
      case rel=>exact⟨k+1,HLT.out,by go_num,c7.b,fun j hj h1=>by
       rcases Nat.lt_or_ge j k with h2|h2
       · exact hs.out j hj h2
       · obtain rfl:j=k:=by omega
         rw[← HF.out];exact HQ.out⟩
      case measure=>have:=HLT.out;simp[intOf];omega
  · have HF:=hide (show(L.all fun f=>Bf m x p f)=true from List.all_eq_true.2 fun f hf=>by
      obtain⟨j,hj,rfl⟩:=List.getElem_of_mem hf
      exact hs.out j hj (by omega))
    obtain rfl:k=L.length:=by omega
    go_wp2_with fail
    go_ret
    exact⟨AJ (by rw[HAL.out,HF.out];rfl),HB1.out.trans (hbr.mono HB1.out.size)⟩
theorem KX (h:MH) (m:AC) (x:AR) (A:Option Addr) (c:Nat) (w:World) (g0:(x.kind != 0)=true) (g1:(x.kind != 1)=true) (g2:(x.kind != 2)=true) (g3:(x.kind != 3)=true) :
    Calls Tryz.prog 84 #[.agg #[.slice h.s m.sT.length h.sc,.slice h.f m.fT.length h.fc,.slice h.r m.rT.length h.rc,.slice h.m m.mT.length h.mc,.slice h.l m.lT.length h.lc,.slice h.i m.iT.length h.ic,.int .i64 m.dT,.int .i64 m.oT,.int .i64 m.vT,.int .i64 m.aT,.slice h.u m.uT.length h.uc],.agg #[.int .i64 x.kind,.int .i64 x.item,.int .i64 x.other,.int .i64 x.n,.int .i64 x.by_,.bool x.always,.slice A x.machines.length c]] w (Ce w (.bool false)):=by
 have HB:=hide (show Below w.heap.size w ((w.alloc (.cells #[.slice h.s m.sT.length h.sc,.slice h.f m.fT.length h.fc,.slice h.r m.rT.length h.rc,.slice h.m m.mT.length h.mc,.slice h.l m.lT.length h.lc,.slice h.i m.iT.length h.ic,.int .i64 m.dT,.int .i64 m.oT,.int .i64 m.vT,.int .i64 m.aT,.slice h.u m.uT.length h.uc] 29)).alloc (.cells #[.int .i64 x.kind,.int .i64 x.item,.int .i64 x.other,.int .i64 x.n,.int .i64 x.by_,.bool x.always,.slice A x.machines.length c] 51)) from((Below.refl w.heap.size w).alloc (Nat.le_refl _) _).alloc (by simp) _)
 go_enter Tryz.func84,Tryz.ntmps84
 go_wp2_with fail
 go_ret
 exact⟨rfl,HB.out⟩
structure EZ (w:World) (M X:Array Value) (q:Addr) (v:Int) (W:World):Prop where
 m:AB W w.heap.size 29 M
 x:AB W (w.heap.size+1) 51 X
 k:W.cell? q=some (.int .i64 v)
 lt:q.block<w.heap.size
 b:Below w.heap.size w W
theorem EZ.grow {w:World} {M X:Array Value} {q:Addr} {v:Int} {W W':World} (s:EZ w M X q v W) (hb:Below W.heap.size W W'):EZ w M X q v W' :=
 ⟨s.m.below hb s.m.lt,s.x.below hb s.x.lt,(hb.cell (Nat.lt_of_lt_of_le s.lt s.b.size)).trans s.k,s.lt,s.b.trans (hb.mono s.b.size)⟩
theorem EZ.drew{w:World}{M X:Array Value}{q:Addr}{v:Int}{W:World}(s:EZ w M X q v W):EZ w M X q v W.drew:=s.grow (Below.refl _ W).drew
theorem EZ.cells {w:World} {h:MH} {m:AC} {x:AR} {A:Option Addr} {c bi oi:Nat} {a:Nat} {q:Addr} {v:Int} {W:World} (s:EZ w #[.slice h.s m.sT.length h.sc,.slice h.f m.fT.length h.fc,.slice h.r m.rT.length h.rc,.slice h.m m.mT.length h.mc,.slice h.l m.lT.length h.lc,.slice (some ⟨bi,oi,none⟩) m.iT.length h.ic,.int .i64 m.dT,.int .i64 m.oT,.int .i64 m.vT,.int .i64 m.aT,.slice h.u m.uT.length h.uc] #[.int .i64 x.kind,.int .i64 ((a:Int)+1),.int .i64 x.other,.int .i64 x.n,.int .i64 x.by_,.bool x.always,.slice A x.machines.length c] q v W):(W.cell? ⟨w.heap.size,0,none⟩=some (.slice h.s m.sT.length h.sc)∧W.cell? ⟨w.heap.size,1,none⟩=some (.slice h.f m.fT.length h.fc)∧W.cell? ⟨w.heap.size,2,none⟩=some (.slice h.r m.rT.length h.rc)∧W.cell? ⟨w.heap.size,3,none⟩=some (.slice h.m m.mT.length h.mc)∧W.cell? ⟨w.heap.size,4,none⟩=some (.slice h.l m.lT.length h.lc)∧W.cell? ⟨w.heap.size,5,none⟩=some (.slice (some ⟨bi,oi,none⟩) m.iT.length h.ic)∧W.cell? ⟨w.heap.size,6,none⟩=some (.int .i64 m.dT)∧W.cell? ⟨w.heap.size,7,none⟩=some (.int .i64 m.oT)∧W.cell? ⟨w.heap.size,8,none⟩=some (.int .i64 m.vT)∧W.cell? ⟨w.heap.size,9,none⟩=some (.int .i64 m.aT)∧W.cell? ⟨w.heap.size,10,none⟩=some (.slice h.u m.uT.length h.uc))∧(W.cell? ⟨w.heap.size+1,0,none⟩=some (.int .i64 x.kind)∧W.cell? ⟨w.heap.size+1,1,none⟩=some (.int .i64 ((a:Int)+1))∧W.cell? ⟨w.heap.size+1,2,none⟩=some (.int .i64 x.other)∧W.cell? ⟨w.heap.size+1,3,none⟩=some (.int .i64 x.n)∧W.cell? ⟨w.heap.size+1,4,none⟩=some (.int .i64 x.by_)∧W.cell? ⟨w.heap.size+1,5,none⟩=some (.bool x.always)∧W.cell? ⟨w.heap.size+1,6,none⟩=some (.slice A x.machines.length c))∧W.cell? q=some (.int .i64 v) :=
 ⟨⟨s.m.cell 0,s.m.cell 1,s.m.cell 2,s.m.cell 3,s.m.cell 4,s.m.cell 5,s.m.cell 6,s.m.cell 7,s.m.cell 8,s.m.cell 9,s.m.cell 10⟩,⟨s.x.cell 0,s.x.cell 1,s.x.cell 2,s.x.cell 3,s.x.cell 4,s.x.cell 5,s.x.cell 6⟩,s.k⟩
theorem QJ (h:MH) (m:AC) (x:AR) (A:Option Addr) (c:Nat) (w:World) (C:En w h m x A) (hk:x.kind=0∨x.kind=1∨x.kind=2∨x.kind=3) (a:Nat) (ha:a<m.iT.length) (he:x.item=(a:Int)+1) (hj:m.iT[a].kind=2) :
    Calls Tryz.prog 84 #[.agg #[.slice h.s m.sT.length h.sc,.slice h.f m.fT.length h.fc,.slice h.r m.rT.length h.rc,.slice h.m m.mT.length h.mc,.slice h.l m.lT.length h.lc,.slice h.i m.iT.length h.ic,.int .i64 m.dT,.int .i64 m.oT,.int .i64 m.vT,.int .i64 m.aT,.slice h.u m.uT.length h.uc],.agg #[.int .i64 x.kind,.int .i64 x.item,.int .i64 x.other,.int .i64 x.n,.int .i64 x.by_,.bool x.always,.slice A x.machines.length c]] w (Ce w (.bool false)):=by
 rw[he]
 have hb0:Below w.heap.size w ((w.alloc (.cells #[.slice h.s m.sT.length h.sc,.slice h.f m.fT.length h.fc,.slice h.r m.rT.length h.rc,.slice h.m m.mT.length h.mc,.slice h.l m.lT.length h.lc,.slice h.i m.iT.length h.ic,.int .i64 m.dT,.int .i64 m.oT,.int .i64 m.vT,.int .i64 m.aT,.slice h.u m.uT.length h.uc] 29)).alloc (.cells #[.int .i64 x.kind,.int .i64 ((a:Int)+1),.int .i64 x.other,.int .i64 x.n,.int .i64 x.by_,.bool x.always,.slice A x.machines.length c] 51)):=((Below.refl w.heap.size w).alloc (Nat.le_refl _) _).alloc (by simp) _
 have hM0:AB ((w.alloc (.cells #[.slice h.s m.sT.length h.sc,.slice h.f m.fT.length h.fc,.slice h.r m.rT.length h.rc,.slice h.m m.mT.length h.mc,.slice h.l m.lT.length h.lc,.slice h.i m.iT.length h.ic,.int .i64 m.dT,.int .i64 m.oT,.int .i64 m.vT,.int .i64 m.aT,.slice h.u m.uT.length h.uc] 29)).alloc (.cells #[.int .i64 x.kind,.int .i64 ((a:Int)+1),.int .i64 x.other,.int .i64 x.n,.int .i64 x.by_,.bool x.always,.slice A x.machines.length c] 51)) w.heap.size 29 #[.slice h.s m.sT.length h.sc,.slice h.f m.fT.length h.fc,.slice h.r m.rT.length h.rc,.slice h.m m.mT.length h.mc,.slice h.l m.lT.length h.lc,.slice h.i m.iT.length h.ic,.int .i64 m.dT,.int .i64 m.oT,.int .i64 m.vT,.int .i64 m.aT,.slice h.u m.uT.length h.uc]:=(AB.new w _ _).alloc _
 have hX0:AB ((w.alloc (.cells #[.slice h.s m.sT.length h.sc,.slice h.f m.fT.length h.fc,.slice h.r m.rT.length h.rc,.slice h.m m.mT.length h.mc,.slice h.l m.lT.length h.lc,.slice h.i m.iT.length h.ic,.int .i64 m.dT,.int .i64 m.oT,.int .i64 m.vT,.int .i64 m.aT,.slice h.u m.uT.length h.uc] 29)).alloc (.cells #[.int .i64 x.kind,.int .i64 ((a:Int)+1),.int .i64 x.other,.int .i64 x.n,.int .i64 x.by_,.bool x.always,.slice A x.machines.length c] 51)) (w.heap.size+1) 51 #[.int .i64 x.kind,.int .i64 ((a:Int)+1),.int .i64 x.other,.int .i64 x.n,.int .i64 x.by_,.bool x.always,.slice A x.machines.length c]:=by
  have:=AB.new (w.alloc (.cells #[.slice h.s m.sT.length h.sc,.slice h.f m.fT.length h.fc,.slice h.r m.rT.length h.rc,.slice h.m m.mT.length h.mc,.slice h.l m.lT.length h.lc,.slice h.i m.iT.length h.ic,.int .i64 m.dT,.int .i64 m.oT,.int .i64 m.vT,.int .i64 m.aT,.slice h.u m.uT.length h.uc] 29)) 51 #[.int .i64 x.kind,.int .i64 ((a:Int)+1),.int .i64 x.other,.int .i64 x.n,.int .i64 x.by_,.bool x.always,.slice A x.machines.length c]
  simpa using this
 obtain⟨bi,oi,A2,c2,hA,hb,_,x1,_⟩:=C.d.dI.item ha
 obtain⟨kd,hkd⟩:∃ kd,kd=m.iT[a].kind:=⟨_,rfl⟩
 rw[← hkd] at x1
 obtain⟨wi,hwi⟩:∃ wi,wi=((w.alloc (.cells #[.slice h.s m.sT.length h.sc,.slice h.f m.fT.length h.fc,.slice h.r m.rT.length h.rc,.slice h.m m.mT.length h.mc,.slice h.l m.lT.length h.lc,.slice h.i m.iT.length h.ic,.int .i64 m.dT,.int .i64 m.oT,.int .i64 m.vT,.int .i64 m.aT,.slice h.u m.uT.length h.uc] 29)).alloc (.cells #[.int .i64 x.kind,.int .i64 ((a:Int)+1),.int .i64 x.other,.int .i64 x.n,.int .i64 x.by_,.bool x.always,.slice A x.machines.length c] 51)):=⟨_,rfl⟩
 have z1:=(hb0.cell (p:=⟨bi,oi+a*7+1,none⟩) hb).trans x1
 rw[← hwi] at hb0 hM0 hX0 z1
 have HW:=hide hwi
 have haI:(a:Int)<(m.iT.length:Int):=by omega
 have ha0:(0:Int)≤(a:Int):=by omega
 have hil2:=C.il2
 have hw1:IntKind.i64.wrap ((a:Int)+1 - 1)=(a:Int):=by rw[IntKind.wrap_i64];omega
 have hw2:IntKind.i64.wrap (a:Int)=(a:Int):=by rw[IntKind.wrap_i64];omega
 rw[hj] at hkd
 subst hkd
 rw[hA] at hM0
 have q5:=hM0.cell 5
 have q6:=hM0.lt
 have y0:=hX0.cell 0
 have y1:=hX0.cell 1
 have y2:=hX0.lt
 have zl:=Nat.lt_of_lt_of_le hb hb0.size
 simp only[List.getElem?_toArray,List.getElem?_cons_succ,List.getElem?_cons_zero] at q5 y0 y1
 have HB:=hide hb0
 clear C hM0 hX0 hA hb0 hb x1 hwi he
 rcases hk with hk|hk|hk|hk
 all_goals
  first|(have g0:(x.kind != 0)=false:=by simp[hk])|(have g0:(x.kind != 0)=true:=by simp[hk])
  first|(have g1:(x.kind != 1)=false:=by simp[hk])|(have g1:(x.kind != 1)=true:=by simp[hk])
  first|(have g2:(x.kind != 2)=false:=by simp[hk])|(have g2:(x.kind != 2)=true:=by simp[hk])
  first|(have g3:(x.kind != 3)=false:=by simp[hk])|(have g3:(x.kind != 3)=true:=by simp[hk])
  clear hk
  go_enter Tryz.func84,Tryz.ntmps84
  go_wp2_with fail
  rw[← HW.out]
  go_quiet (fail)
  go_wp2_with fail
  go_ret
  exact⟨rfl,AY HB.out _⟩
theorem QK (h:MH) (m:AC) (x:AR) (A:Option Addr) (c:Nat) (w:World) (C:En w h m x A) (hk:x.kind=0∨x.kind=1∨x.kind=2∨x.kind=3) (a:Nat) (ha:a<m.iT.length) (he:x.item=(a:Int)+1) (hj:(m.iT[a].kind != 2)=true) :
    Calls Tryz.prog 84 #[.agg #[.slice h.s m.sT.length h.sc,.slice h.f m.fT.length h.fc,.slice h.r m.rT.length h.rc,.slice h.m m.mT.length h.mc,.slice h.l m.lT.length h.lc,.slice h.i m.iT.length h.ic,.int .i64 m.dT,.int .i64 m.oT,.int .i64 m.vT,.int .i64 m.aT,.slice h.u m.uT.length h.uc],.agg #[.int .i64 x.kind,.int .i64 x.item,.int .i64 x.other,.int .i64 x.n,.int .i64 x.by_,.bool x.always,.slice A x.machines.length c]] w (Ce w (.bool (CB m x (Al m)))):=by
 rw[he]
 have hb0:Below w.heap.size w ((w.alloc (.cells #[.slice h.s m.sT.length h.sc,.slice h.f m.fT.length h.fc,.slice h.r m.rT.length h.rc,.slice h.m m.mT.length h.mc,.slice h.l m.lT.length h.lc,.slice h.i m.iT.length h.ic,.int .i64 m.dT,.int .i64 m.oT,.int .i64 m.vT,.int .i64 m.aT,.slice h.u m.uT.length h.uc] 29)).alloc (.cells #[.int .i64 x.kind,.int .i64 ((a:Int)+1),.int .i64 x.other,.int .i64 x.n,.int .i64 x.by_,.bool x.always,.slice A x.machines.length c] 51)):=((Below.refl w.heap.size w).alloc (Nat.le_refl _) _).alloc (by simp) _
 have hM0:AB ((w.alloc (.cells #[.slice h.s m.sT.length h.sc,.slice h.f m.fT.length h.fc,.slice h.r m.rT.length h.rc,.slice h.m m.mT.length h.mc,.slice h.l m.lT.length h.lc,.slice h.i m.iT.length h.ic,.int .i64 m.dT,.int .i64 m.oT,.int .i64 m.vT,.int .i64 m.aT,.slice h.u m.uT.length h.uc] 29)).alloc (.cells #[.int .i64 x.kind,.int .i64 ((a:Int)+1),.int .i64 x.other,.int .i64 x.n,.int .i64 x.by_,.bool x.always,.slice A x.machines.length c] 51)) w.heap.size 29 #[.slice h.s m.sT.length h.sc,.slice h.f m.fT.length h.fc,.slice h.r m.rT.length h.rc,.slice h.m m.mT.length h.mc,.slice h.l m.lT.length h.lc,.slice h.i m.iT.length h.ic,.int .i64 m.dT,.int .i64 m.oT,.int .i64 m.vT,.int .i64 m.aT,.slice h.u m.uT.length h.uc]:=(AB.new w _ _).alloc _
 have hX0:AB ((w.alloc (.cells #[.slice h.s m.sT.length h.sc,.slice h.f m.fT.length h.fc,.slice h.r m.rT.length h.rc,.slice h.m m.mT.length h.mc,.slice h.l m.lT.length h.lc,.slice h.i m.iT.length h.ic,.int .i64 m.dT,.int .i64 m.oT,.int .i64 m.vT,.int .i64 m.aT,.slice h.u m.uT.length h.uc] 29)).alloc (.cells #[.int .i64 x.kind,.int .i64 ((a:Int)+1),.int .i64 x.other,.int .i64 x.n,.int .i64 x.by_,.bool x.always,.slice A x.machines.length c] 51)) (w.heap.size+1) 51 #[.int .i64 x.kind,.int .i64 ((a:Int)+1),.int .i64 x.other,.int .i64 x.n,.int .i64 x.by_,.bool x.always,.slice A x.machines.length c]:=by
  have:=AB.new (w.alloc (.cells #[.slice h.s m.sT.length h.sc,.slice h.f m.fT.length h.fc,.slice h.r m.rT.length h.rc,.slice h.m m.mT.length h.mc,.slice h.l m.lT.length h.lc,.slice h.i m.iT.length h.ic,.int .i64 m.dT,.int .i64 m.oT,.int .i64 m.vT,.int .i64 m.aT,.slice h.u m.uT.length h.uc] 29)) 51 #[.int .i64 x.kind,.int .i64 ((a:Int)+1),.int .i64 x.other,.int .i64 x.n,.int .i64 x.by_,.bool x.always,.slice A x.machines.length c]
  simpa using this
 obtain⟨bi,oi,A2,c2,hA,hb,_,x1,_⟩:=C.d.dI.item ha
 obtain⟨kd,hkd⟩:∃ kd,kd=m.iT[a].kind:=⟨_,rfl⟩
 rw[← hkd] at x1
 obtain⟨wi,hwi⟩:∃ wi,wi=((w.alloc (.cells #[.slice h.s m.sT.length h.sc,.slice h.f m.fT.length h.fc,.slice h.r m.rT.length h.rc,.slice h.m m.mT.length h.mc,.slice h.l m.lT.length h.lc,.slice h.i m.iT.length h.ic,.int .i64 m.dT,.int .i64 m.oT,.int .i64 m.vT,.int .i64 m.aT,.slice h.u m.uT.length h.uc] 29)).alloc (.cells #[.int .i64 x.kind,.int .i64 ((a:Int)+1),.int .i64 x.other,.int .i64 x.n,.int .i64 x.by_,.bool x.always,.slice A x.machines.length c] 51)):=⟨_,rfl⟩
 have z1:=(hb0.cell (p:=⟨bi,oi+a*7+1,none⟩) hb).trans x1
 rw[← hwi] at hb0 hM0 hX0 z1
 have HW:=hide hwi
 have haI:(a:Int)<(m.iT.length:Int):=by omega
 have ha0:(0:Int)≤(a:Int):=by omega
 have hil2:=C.il2
 have hw1:IntKind.i64.wrap ((a:Int)+1 - 1)=(a:Int):=by rw[IntKind.wrap_i64];omega
 have hw2:IntKind.i64.wrap (a:Int)=(a:Int):=by rw[IntKind.wrap_i64];omega
 rw[← hkd] at hj
 have HIN:=hide (fun W (hW:Below w.heap.size w W)=>G6 h m W (C.d.grow hW) (by omega) (fun y hy=>by have:=C.on y hy;omega))
 have HHO:=hide (fun W (hW:Below w.heap.size w W) (Ap:Option Addr) (cp:Nat) (hp:PT W (.slice Ap (Al m).length cp) (Al m))=>Jb h m C.f x A c Ap cp (Al m) W ⟨C.d.grow hW,C.i.grow hW,C.il,hp.pr,by simp[Al];omega,by
  obtain⟨y,hy,e⟩:∃ y∈m.iT,AQ (Al m) x.item=y.on.map fun k=>(k,0):=by
   refine⟨m.iT[a],List.getElem_mem ha,?_⟩
   rw[he,DJ (by simpa[Al] using ha)]
   simp[Al]
  rw[e,List.length_map]
  have:=C.on y hy;omega,C.dm⟩)
 obtain⟨P,hP⟩:∃ P,P=Al m:=⟨_,rfl⟩
 rw[← hP] at HIN HHO ⊢
 rw[hA] at hM0 HIN HHO ⊢
 rw[he] at HHO
 have HS:=hide (show EZ w #[.slice h.s m.sT.length h.sc,.slice h.f m.fT.length h.fc,.slice h.r m.rT.length h.rc,.slice h.m m.mT.length h.mc,.slice h.l m.lT.length h.lc,.slice (some ⟨bi,oi,none⟩) m.iT.length h.ic,.int .i64 m.dT,.int .i64 m.oT,.int .i64 m.vT,.int .i64 m.aT,.slice h.u m.uT.length h.uc] #[.int .i64 x.kind,.int .i64 ((a:Int)+1),.int .i64 x.other,.int .i64 x.n,.int .i64 x.by_,.bool x.always,.slice A x.machines.length c] ⟨bi,oi+a*7+1,none⟩ kd wi from⟨hM0,hX0,z1,hb,hb0⟩)
 obtain⟨⟨a0,a1,a2,a3,a4,a5,a6,a7,a8,a9,a10⟩,⟨r0,r1,r2,r3,r4,r5,r6⟩,k0⟩:=HS.out.cells
 rw[hA] at HW
 have al:=HS.out.m.lt
 have rl:=HS.out.x.lt
 have zl:=Nat.lt_of_lt_of_le hb hb0.size
 clear C hM0 hX0 hA hb0 hb x1 hkd z1 hwi hP he
 rcases hk with hk|hk|hk|hk
 all_goals
  first|(have g0:(x.kind != 0)=false:=by simp[hk])|(have g0:(x.kind != 0)=true:=by simp[hk])
  first|(have g1:(x.kind != 1)=false:=by simp[hk])|(have g1:(x.kind != 1)=true:=by simp[hk])
  first|(have g2:(x.kind != 2)=false:=by simp[hk])|(have g2:(x.kind != 2)=true:=by simp[hk])
  first|(have g3:(x.kind != 3)=false:=by simp[hk])|(have g3:(x.kind != 3)=true:=by simp[hk])
  clear hk
  go_enter Tryz.func84,Tryz.ntmps84
  go_wp2_with fail
  rw[← HW.out]
  go_region_held3 (fun W=>((W.cell? ⟨w.heap.size,0,none⟩=some (.slice h.s m.sT.length h.sc)∧W.cell? ⟨w.heap.size,1,none⟩=some (.slice h.f m.fT.length h.fc)∧W.cell? ⟨w.heap.size,2,none⟩=some (.slice h.r m.rT.length h.rc)∧W.cell? ⟨w.heap.size,3,none⟩=some (.slice h.m m.mT.length h.mc)∧W.cell? ⟨w.heap.size,4,none⟩=some (.slice h.l m.lT.length h.lc)∧W.cell? ⟨w.heap.size,5,none⟩=some (.slice (some ⟨bi,oi,none⟩) m.iT.length h.ic)∧W.cell? ⟨w.heap.size,6,none⟩=some (.int .i64 m.dT)∧W.cell? ⟨w.heap.size,7,none⟩=some (.int .i64 m.oT)∧W.cell? ⟨w.heap.size,8,none⟩=some (.int .i64 m.vT)∧W.cell? ⟨w.heap.size,9,none⟩=some (.int .i64 m.aT)∧W.cell? ⟨w.heap.size,10,none⟩=some (.slice h.u m.uT.length h.uc))∧(W.cell? ⟨w.heap.size+1,0,none⟩=some (.int .i64 x.kind)∧W.cell? ⟨w.heap.size+1,1,none⟩=some (.int .i64 ((a:Int)+1))∧W.cell? ⟨w.heap.size+1,2,none⟩=some (.int .i64 x.other)∧W.cell? ⟨w.heap.size+1,3,none⟩=some (.int .i64 x.n)∧W.cell? ⟨w.heap.size+1,4,none⟩=some (.int .i64 x.by_)∧W.cell? ⟨w.heap.size+1,5,none⟩=some (.bool x.always)∧W.cell? ⟨w.heap.size+1,6,none⟩=some (.slice A x.machines.length c))∧W.cell? ⟨bi,oi+a*7+1,none⟩=some (.int .i64 kd))∧EZ w #[.slice h.s m.sT.length h.sc,.slice h.f m.fT.length h.fc,.slice h.r m.rT.length h.rc,.slice h.m m.mT.length h.mc,.slice h.l m.lT.length h.lc,.slice (some ⟨bi,oi,none⟩) m.iT.length h.ic,.int .i64 m.dT,.int .i64 m.oT,.int .i64 m.vT,.int .i64 m.aT,.slice h.u m.uT.length h.uc] #[.int .i64 x.kind,.int .i64 ((a:Int)+1),.int .i64 x.other,.int .i64 x.n,.int .i64 x.by_,.bool x.always,.slice A x.machines.length c] ⟨bi,oi+a*7+1,none⟩ kd W)
   ((with_reducible (first|(go_keep;done)|exact⟨EZ.cells HS.out.drew,HS.out.drew⟩|exact⟨EZ.cells c7,c7⟩|exact⟨EZ.cells c8,c8⟩|(have hH:=(by assumption:_∧EZ _ _ _ _ _ _);exact⟨EZ.cells (EZ.drew hH.2),EZ.drew hH.2⟩))))
   ((first
     | (go_at_call 81;have hH:=And.intro (EZ.cells HS.out.drew) HS.out.drew;(with_reducible refine(HIN.out _ hH.2.b).mono ?_);rintro e w5 ⟨A5,k5,rfl,hp5,hb5⟩;have c7:=EZ.grow hH.2 hb5;clear hH)
     | (go_at_call 85;(with_reducible refine(HHO.out _ c7.b A5 k5 hp5).mono ?_);rintro e w6 ⟨rfl,hb6⟩;have c8:=EZ.grow c7 hb6)))
  all_goals
   go_wp2_with fail
   go_ret
   exact⟨rfl,c8.b⟩
theorem Oj (h:MH) (m:AC) (x:AR) (A:Option Addr) (c:Nat) (w:World) (C:En w h m x A) (hit:x.kind=0∨x.kind=1∨x.kind=2∨x.kind=3→1≤x.item∧x.item≤m.iT.length) :
    Calls Tryz.prog 84 #[.agg #[.slice h.s m.sT.length h.sc,.slice h.f m.fT.length h.fc,.slice h.r m.rT.length h.rc,.slice h.m m.mT.length h.mc,.slice h.l m.lT.length h.lc,.slice h.i m.iT.length h.ic,.int .i64 m.dT,.int .i64 m.oT,.int .i64 m.vT,.int .i64 m.aT,.slice h.u m.uT.length h.uc],.agg #[.int .i64 x.kind,.int .i64 x.item,.int .i64 x.other,.int .i64 x.n,.int .i64 x.by_,.bool x.always,.slice A x.machines.length c]] w (Ce w (.bool (BB m x))):=by
 by_cases hk:x.kind=0∨x.kind=1∨x.kind=2∨x.kind=3
 · obtain ⟨h1,h2⟩:=hit hk
   obtain⟨a,ha,he⟩:∃ a:Nat,a<m.iT.length∧x.item=(a:Int)+1:=⟨(x.item - 1).toNat,by omega,by omega⟩
   have hki:Ai m x.item=m.iT[a].kind:=by rw[he,CG ha]
   by_cases hj:m.iT[a].kind=2
   · rw[show BB m x=false by simp[BB,hki,hj]]
     exact QJ h m x A c w C hk a ha he hj
   · rw[show BB m x=CB m x (Al m) by rcases hk with hk|hk|hk|hk <;> simp[BB,hki,hj,hk]]
     exact QK h m x A c w C hk a ha he (by simpa using hj)
 · rw [show BB m x=false by
     simp only[not_or] at hk
     simp[BB,hk]]
   simp only[not_or] at hk
   exact KX h m x A c w (by simpa using hk.1) (by simpa using hk.2.1) (by simpa using hk.2.2.1) (by simpa using hk.2.2.2)
end Go.Proofs.YtfemlajeomohhaaGreatDoor
