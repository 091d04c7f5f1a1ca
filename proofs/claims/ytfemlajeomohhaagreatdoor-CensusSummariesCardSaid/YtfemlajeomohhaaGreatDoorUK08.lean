/- A part of the claim: see its last text. -/
import Derived.Test.YtfemlajeomohhaaGreatDoorUK07
import Derived.Deep.MidRow
import Derived.Deep.WholeRow
import Derived.Deep.RegionLawGrows

set_option maxRecDepth 100000
set_option maxHeartbeats 16000000
namespace Go.Proofs.YtfemlajeomohhaaGreatDoor
open Go Go.RowKit Go.Proofs
structure EvJ where
 v2:Int
 v3:Int
 v5:Int
 v6:ByteArray
 v7:Int
 v8:Int
 v9:Int
 v10:Bool
 v11:Int
 A:Option Addr
 c:Nat
 A13:Option Addr
 n13:Nat
 c13:Nat
 A14:Option Addr
 n14:Nat
 c14:Nat
 v16:Int
 v18:Int
 v19:Int
def BD:Gv EvM:=⟨fun(w:World) (B:Nat) (x:EvM) (vs:List Value)=>∃ j:EvJ,vs=(#[.int .i64 x.kind,.int .i64 x.mach,.int .i64 j.v2,.int .i64 j.v3,.int .i64 x.group,.int .i64 j.v5,.string j.v6,.int .i64 j.v7,.int .i64 j.v8,.int .i64 j.v9,.bool j.v10,.int .i64 j.v11,.slice j.A x.old.length j.c,.slice j.A13 j.n13 j.c13,.slice j.A14 j.n14 j.c14,.int .i64 x.hitem,.int .i64 j.v16,.int .i64 x.hstate,.int .i64 j.v18,.int .i64 j.v19,.bool x.gone,.int .i64 x.outcome]:Array Value).toList∧x.old.length≤j.c∧j.c≤9223372036854775807∧Ints w B j.A x.old,
 fun⟨j,h1,h2,h3,h4⟩ hk=>⟨j,h1,h2,h3,h4.keep hk⟩,fun⟨j,h1,h2,h3,h4⟩ hB=>⟨j,h1,h2,h3,h4.more hB⟩⟩
theorem Rows.ev {w:World} {B:Nat} {A:Option Addr} {l:List EvM} (h:Rows BD 22 w B A l) {i:Nat} (hi:i<l.length) {x:EvM} (hx:l[i]=x) :
    ∃ (b off:Nat) (j:EvJ),A=some ⟨b,off,none⟩∧b<B∧x.old.length≤j.c∧j.c≤9223372036854775807∧Ints w B j.A x.old∧∀ (k:Nat) (u:Value),(#[.int .i64 x.kind,.int .i64 x.mach,.int .i64 j.v2,.int .i64 j.v3,.int .i64 x.group,.int .i64 j.v5,.string j.v6,.int .i64 j.v7,.int .i64 j.v8,.int .i64 j.v9,.bool j.v10,.int .i64 j.v11,.slice j.A x.old.length j.c,.slice j.A13 j.n13 j.c13,.slice j.A14 j.n14 j.c14,.int .i64 x.hitem,.int .i64 j.v16,.int .i64 x.hstate,.int .i64 j.v18,.int .i64 j.v19,.bool x.gone,.int .i64 x.outcome]:Array Value)[k]? = some u→w.cell? ⟨b,off+i*22+k,none⟩=some u:=by
 subst hx
 obtain⟨b,off,vs,e,hb,_,⟨j,rfl,h1,h2,h3⟩,hc⟩:=h i hi
 exact⟨b,off,j,e,hb,h1,h2,h3,fun k u hu=>hc k u (by simpa using hu)⟩
theorem EB.cells {w:World} {be:Nat} {x:EvM} {j:EvJ} (d:AB w be 85 #[.int .i64 x.kind,.int .i64 x.mach,.int .i64 j.v2,.int .i64 j.v3,.int .i64 x.group,.int .i64 j.v5,.string j.v6,.int .i64 j.v7,.int .i64 j.v8,.int .i64 j.v9,.bool j.v10,.int .i64 j.v11,.slice j.A x.old.length j.c,.slice j.A13 j.n13 j.c13,.slice j.A14 j.n14 j.c14,.int .i64 x.hitem,.int .i64 j.v16,.int .i64 x.hstate,.int .i64 j.v18,.int .i64 j.v19,.bool x.gone,.int .i64 x.outcome]) :
    w.cell? ⟨be,0,none⟩=some (.int .i64 x.kind)∧w.cell? ⟨be,1,none⟩=some (.int .i64 x.mach)∧w.cell? ⟨be,4,none⟩=some (.int .i64 x.group)∧w.cell? ⟨be,12,none⟩=some (.slice j.A x.old.length j.c) ∧
    w.cell? ⟨be,15,none⟩=some (.int .i64 x.hitem)∧w.cell? ⟨be,16,none⟩=some (.int .i64 j.v16)∧w.cell? ⟨be,17,none⟩=some (.int .i64 x.hstate)∧w.cell? ⟨be,18,none⟩=some (.int .i64 j.v18)∧w.cell? ⟨be,19,none⟩=some (.int .i64 j.v19)∧w.cell? ⟨be,20,none⟩=some (.bool x.gone)∧w.cell? ⟨be,21,none⟩=some (.int .i64 x.outcome) :=
 ⟨d.cell 0,d.cell 1,d.cell 4,d.cell 12,d.cell 15,d.cell 16,d.cell 17,d.cell 18,d.cell 19,d.cell 20,d.cell 21⟩
theorem EB.rest {w:World} {be:Nat} {x:EvM} {j:EvJ} (d:AB w be 85 #[.int .i64 x.kind,.int .i64 x.mach,.int .i64 j.v2,.int .i64 j.v3,.int .i64 x.group,.int .i64 j.v5,.string j.v6,.int .i64 j.v7,.int .i64 j.v8,.int .i64 j.v9,.bool j.v10,.int .i64 j.v11,.slice j.A x.old.length j.c,.slice j.A13 j.n13 j.c13,.slice j.A14 j.n14 j.c14,.int .i64 x.hitem,.int .i64 j.v16,.int .i64 x.hstate,.int .i64 j.v18,.int .i64 j.v19,.bool x.gone,.int .i64 x.outcome]) :
    w.cell? ⟨be,2,none⟩=some (.int .i64 j.v2)∧w.cell? ⟨be,3,none⟩=some (.int .i64 j.v3)∧w.cell? ⟨be,5,none⟩=some (.int .i64 j.v5)∧w.cell? ⟨be,6,none⟩=some (.string j.v6)∧w.cell? ⟨be,7,none⟩=some (.int .i64 j.v7)∧w.cell? ⟨be,8,none⟩=some (.int .i64 j.v8)∧w.cell? ⟨be,9,none⟩=some (.int .i64 j.v9) ∧
    w.cell? ⟨be,10,none⟩=some (.bool j.v10)∧w.cell? ⟨be,11,none⟩=some (.int .i64 j.v11)∧w.cell? ⟨be,13,none⟩=some (.slice j.A13 j.n13 j.c13)∧w.cell? ⟨be,14,none⟩=some (.slice j.A14 j.n14 j.c14) :=
 ⟨d.cell 2,d.cell 3,d.cell 5,d.cell 6,d.cell 7,d.cell 8,d.cell 9,d.cell 10,d.cell 11,d.cell 13,d.cell 14⟩
theorem Ck:(Tryz.prog.info? 85).map (·.size)=some 22:=by kernel_rfl
theorem J9(x:EvM)(j:EvJ):(#[.int .i64 x.kind,.int .i64 x.mach,.int .i64 j.v2,.int .i64 j.v3,.int .i64 x.group,.int .i64 j.v5,.string j.v6,.int .i64 j.v7,.int .i64 j.v8,.int .i64 j.v9,.bool j.v10,.int .i64 j.v11,.slice j.A x.old.length j.c,.slice j.A13 j.n13 j.c13,.slice j.A14 j.n14 j.c14,.int .i64 x.hitem,.int .i64 j.v16,.int .i64 x.hstate,.int .i64 j.v18,.int .i64 j.v19,.bool x.gone,.int .i64 x.outcome]:Array Value).all (·.oneCell')=true:=by simp[Value.oneCell']
theorem Rows.evRange {w:World} {B:Nat} {A:Option Addr} {l:List EvM} (h:Rows BD 22 w B A l) {i:Nat} (hi:i<l.length) {x:EvM} (hx:l[i]=x) :
    ∃ (b off:Nat) (j:EvJ),A=some ⟨b,off,none⟩∧b<B∧x.old.length≤j.c∧j.c≤9223372036854775807∧Ints w B j.A x.old∧w.rangeAt b (off+i*22) [.int .i64 x.kind,.int .i64 x.mach,.int .i64 j.v2,.int .i64 j.v3,.int .i64 x.group,.int .i64 j.v5,.string j.v6,.int .i64 j.v7,.int .i64 j.v8,.int .i64 j.v9,.bool j.v10,.int .i64 j.v11,.slice j.A x.old.length j.c,.slice j.A13 j.n13 j.c13,.slice j.A14 j.n14 j.c14,.int .i64 x.hitem,.int .i64 j.v16,.int .i64 x.hstate,.int .i64 j.v18,.int .i64 j.v19,.bool x.gone,.int .i64 x.outcome]:=by
 obtain⟨b,off,j,e,hb,h1,h2,h3,hc⟩:=h.ev hi hx
 exact⟨b,off,j,e,hb,h1,h2,h3,fun k u hu=>hc k u (by simpa using hu)⟩
def Br(w:World)(v:Value)(e:Ending)(w':World):Prop:=e=.returned v∧Below w.heap.size w w'
theorem ED {m:AC} {n:Int} (h:n<1∨(m.iT.length:Int)<n):Ai m n = -1:=by
 have:AP n m.iT.length=false:=by simp[AP];omega
 simp[Ai,this]
theorem CG {m:AC} {k:Nat} (hk:k<m.iT.length):Ai m ((k:Int)+1)=m.iT[k].kind:=by
 have:AP ((k:Int)+1) m.iT.length=true:=by simp[AP];omega
 simp[Ai,this,hk]
theorem Cx (h:MH) (m:AC) (n:Int) (w:World) (d:MD w w.heap.size h m) :
    Calls Tryz.prog 32 #[.agg #[.slice h.s m.sT.length h.sc,.slice h.f m.fT.length h.fc,.slice h.r m.rT.length h.rc,.slice h.m m.mT.length h.mc,.slice h.l m.lT.length h.lc,.slice h.i m.iT.length h.ic,.int .i64 m.dT,.int .i64 m.oT,.int .i64 m.vT,.int .i64 m.aT,.slice h.u m.uT.length h.uc],.int .i64 n] w (Br w (.int .i64 (Ai m n))):=by
 have HB:=hide ((Below.refl w.heap.size w).alloc (Nat.le_refl _) (.cells #[.slice h.s m.sT.length h.sc,.slice h.f m.fT.length h.fc,.slice h.r m.rT.length h.rc,.slice h.m m.mT.length h.mc,.slice h.l m.lT.length h.lc,.slice h.i m.iT.length h.ic,.int .i64 m.dT,.int .i64 m.oT,.int .i64 m.vT,.int .i64 m.aT,.slice h.u m.uT.length h.uc] 29))
 have hil:=d.il
 by_cases e1:n<1
 · have HK:=hide (ED (m:=m) (n:=n) (.inl e1))
   go_enter Tryz.func32,Tryz.ntmps32
   go_wp2_with fail
   go_ret
   exact⟨by rw[HK.out];rfl,HB.out⟩
 by_cases e2:(m.iT.length:Int)<n
 · have HK:=hide (ED (m:=m) (n:=n) (.inr e2))
   go_enter Tryz.func32,Tryz.ntmps32
   go_wp2_with fail
   go_ret
   exact⟨by rw[HK.out];rfl,HB.out⟩
 · obtain⟨k,hk,rfl⟩:∃ k:Nat,k<m.iT.length∧n=(k:Int)+1:=⟨(n - 1).toNat,by omega,by omega⟩
   obtain⟨b,off,A2,c2,hA,hb,x0,x1,x2,x3,x4,x5,x6,hz,hlc,hcm,hI⟩:=d.dI.item hk
   have HK:=hide (CG hk)
   have hkI:(k:Int)<(m.iT.length:Int):=by omega
   clear hI d e1 e2
   go_enter Tryz.func32,Tryz.ntmps32
   rw[hA] at HB
   rw[hA]
   go_wp2_with fail
   go_ret
   exact⟨by rw[HK.out];rfl,HB.out⟩
theorem GH (h:MH) (m:AC) (n:Int) (w:World) (_hml:m.mT.length≤9223372036854775807) :
    Calls Tryz.prog 117 #[.agg #[.slice h.s m.sT.length h.sc,.slice h.f m.fT.length h.fc,.slice h.r m.rT.length h.rc,.slice h.m m.mT.length h.mc,.slice h.l m.lT.length h.lc,.slice h.i m.iT.length h.ic,.int .i64 m.dT,.int .i64 m.oT,.int .i64 m.vT,.int .i64 m.aT,.slice h.u m.uT.length h.uc],.int .i64 n] w (Br w (.bool (AP n m.mT.length))):=by
 have HB:=hide ((Below.refl w.heap.size w).alloc (Nat.le_refl _) (.cells #[.slice h.s m.sT.length h.sc,.slice h.f m.fT.length h.fc,.slice h.r m.rT.length h.rc,.slice h.m m.mT.length h.mc,.slice h.l m.lT.length h.lc,.slice h.i m.iT.length h.ic,.int .i64 m.dT,.int .i64 m.oT,.int .i64 m.vT,.int .i64 m.aT,.slice h.u m.uT.length h.uc] 29))
 by_cases e1:n<1
 · have HK:=hide (show AP n m.mT.length=false by simp[AP];omega)
   go_enter Tryz.func117,Tryz.ntmps117
   go_wp2_with fail
   go_ret
   exact⟨by rw[HK.out];rfl,HB.out⟩
 · have e3:1≤n:=by omega
   have HK:=hide (show AP n m.mT.length=decide (n≤(m.mT.length:Int)) by simp[AP,e3])
   go_enter Tryz.func117,Tryz.ntmps117
   go_wp2_with fail
   go_ret
   exact⟨by rw[HK.out];rfl,HB.out⟩
theorem FV{m:AC}{x:EvM}(h:x.kind=2):Ah m x=decide (Ai m x.group=0):=by simp[Ah,h]
theorem Dt{m:AC}{x:EvM}(h:x.kind=3):Ah m x=((decide (Ai m x.hitem=1) || decide (Ai m x.hitem=2)) && AP x.mach m.mT.length):=by simp[Ah,h]
theorem Ea{m:AC}{x:EvM}(h:x.kind≠2)(h3:x.kind≠3):Ah m x=false:=by simp[Ah,h,h3]
theorem Nb (h:MH) (m:AC) (x:EvM) (j:EvJ) (w:World) (d:MD w w.heap.size h m) :
    Calls Tryz.prog 63 #[.agg #[.slice h.s m.sT.length h.sc,.slice h.f m.fT.length h.fc,.slice h.r m.rT.length h.rc,.slice h.m m.mT.length h.mc,.slice h.l m.lT.length h.lc,.slice h.i m.iT.length h.ic,.int .i64 m.dT,.int .i64 m.oT,.int .i64 m.vT,.int .i64 m.aT,.slice h.u m.uT.length h.uc],.agg #[.int .i64 x.kind,.int .i64 x.mach,.int .i64 j.v2,.int .i64 j.v3,.int .i64 x.group,.int .i64 j.v5,.string j.v6,.int .i64 j.v7,.int .i64 j.v8,.int .i64 j.v9,.bool j.v10,.int .i64 j.v11,.slice j.A x.old.length j.c,.slice j.A13 j.n13 j.c13,.slice j.A14 j.n14 j.c14,.int .i64 x.hitem,.int .i64 j.v16,.int .i64 x.hstate,.int .i64 j.v18,.int .i64 j.v19,.bool x.gone,.int .i64 x.outcome]] w (Br w (.bool (Ah m x))):=by
 have hB:=(((Below.refl w.heap.size w).alloc (Nat.le_refl _) (.cells #[.slice h.s m.sT.length h.sc,.slice h.f m.fT.length h.fc,.slice h.r m.rT.length h.rc,.slice h.m m.mT.length h.mc,.slice h.l m.lT.length h.lc,.slice h.i m.iT.length h.ic,.int .i64 m.dT,.int .i64 m.oT,.int .i64 m.vT,.int .i64 m.aT,.slice h.u m.uT.length h.uc] 29)).alloc (by simp) (.cells #[.int .i64 x.kind,.int .i64 x.mach,.int .i64 j.v2,.int .i64 j.v3,.int .i64 x.group,.int .i64 j.v5,.string j.v6,.int .i64 j.v7,.int .i64 j.v8,.int .i64 j.v9,.bool j.v10,.int .i64 j.v11,.slice j.A x.old.length j.c,.slice j.A13 j.n13 j.c13,.slice j.A14 j.n14 j.c14,.int .i64 x.hitem,.int .i64 j.v16,.int .i64 x.hstate,.int .i64 j.v18,.int .i64 j.v19,.bool x.gone,.int .i64 x.outcome] 85))
 have HD:=hide (d.grow hB)
 have HB:=hide hB
 have hml:=hide d.ml
 clear hB d
 by_cases e2:x.kind=2
 · have g2:(x.kind == 2)=true:=by simpa using e2
   have HK:=hide (FV (m:=m) e2)
   clear e2
   go_enter Tryz.func63,Tryz.ntmps63
   go_wp2_with (go_at_call 32;refine(Cx h m x.group _ HD.out).mono ?_;rintro e w1 ⟨rfl,hb1⟩)
   go_ret
   exact⟨by rw[HK.out];rfl,HB.out.trans (hb1.mono HB.out.size)⟩
 by_cases e3:x.kind=3
 · have g2:(x.kind == 2)=false:=by simpa using e2
   have g3:(x.kind == 3)=true:=by simpa using e3
   have HK:=hide (Dt (m:=m) e3)
   clear e2 e3
   have hk:((Ai m x.hitem == 1)=true)∨((Ai m x.hitem == 1)=false∧(Ai m x.hitem == 2)=true)∨((Ai m x.hitem == 1)=false∧(Ai m x.hitem == 2)=false):=by
    cases (Ai m x.hitem == 1) <;> cases (Ai m x.hitem == 2) <;> simp
   have e0:∀ b,(Ai m x.hitem == b)=decide (Ai m x.hitem=b):=fun b=>by rw[Bool.eq_iff_iff];simp
   rcases hk with q1|⟨q1,q2⟩|⟨q1,q2⟩
   · have HV:=hide (show((decide (Ai m x.hitem=1) || decide (Ai m x.hitem=2)) && AP x.mach m.mT.length)=AP x.mach m.mT.length by rw[← e0,← e0,q1];simp)
     clear e0
     go_enter Tryz.func63,Tryz.ntmps63
     go_wp2_with (first
      | (go_at_call 32;refine(Cx h m x.hitem _ HD.out).mono ?_;rintro e w1 ⟨rfl,hb1⟩;obtain⟨c1,f1⟩:=ET hb1;have HB1:=hide hb1;clear hb1)
      | (go_at_call 117;refine(GH h m x.mach _ hml.out).mono ?_;rintro e w2 ⟨rfl,hb2⟩))
     go_ret
     exact⟨by rw[HK.out,HV.out];rfl,HB.out.trans ((HB1.out.trans (hb2.mono HB1.out.size)).mono HB.out.size)⟩
   · have HV:=hide (show((decide (Ai m x.hitem=1) || decide (Ai m x.hitem=2)) && AP x.mach m.mT.length)=AP x.mach m.mT.length by rw[← e0,← e0,q2];simp)
     clear e0
     go_enter Tryz.func63,Tryz.ntmps63
     go_wp2_with (first
      | (go_at_call 32;refine(Cx h m x.hitem _ HD.out).mono ?_;rintro e w1 ⟨rfl,hb1⟩;obtain⟨c1,f1⟩:=ET hb1;have HB1:=hide hb1;clear hb1)
      | (go_at_call 117;refine(GH h m x.mach _ hml.out).mono ?_;rintro e w2 ⟨rfl,hb2⟩))
     go_ret
     exact⟨by rw[HK.out,HV.out];rfl,HB.out.trans ((HB1.out.trans (hb2.mono HB1.out.size)).mono HB.out.size)⟩
   · have HV:=hide (show((decide (Ai m x.hitem=1) || decide (Ai m x.hitem=2)) && AP x.mach m.mT.length)=false by rw[← e0,← e0,q1,q2];simp)
     clear e0
     go_enter Tryz.func63,Tryz.ntmps63
     go_wp2_with (go_at_call 32;refine(Cx h m x.hitem _ HD.out).mono ?_;rintro e w1 ⟨rfl,hb1⟩;obtain⟨c1,f1⟩:=ET hb1;have HB1:=hide hb1;clear hb1)
     go_ret
     exact⟨by rw[HK.out,HV.out];rfl,HB.out.trans (HB1.out.mono HB.out.size)⟩
 · have g2:(x.kind == 2)=false:=by simpa using e2
   have g3:(x.kind == 3)=false:=by simpa using e3
   have HK:=hide (Ea (m:=m) e2 e3)
   clear e2 e3
   go_enter Tryz.func63,Tryz.ntmps63
   go_wp2_with fail
   go_ret
   exact⟨by rw[HK.out];rfl,HB.out⟩
def Tt (g:Nat) (lb:Array Value) (l:List EvM) (p:EvM→Bool) (w:World):Prop :=
 ∀ (x:EvM) (j:EvJ) (_:x∈l) (W:World),Below w.heap.size w W→Calls Tryz.prog g (#[.agg #[.int .i64 x.kind,.int .i64 x.mach,.int .i64 j.v2,.int .i64 j.v3,.int .i64 x.group,.int .i64 j.v5,.string j.v6,.int .i64 j.v7,.int .i64 j.v8,.int .i64 j.v9,.bool j.v10,.int .i64 j.v11,.slice j.A x.old.length j.c,.slice j.A13 j.n13 j.c13,.slice j.A14 j.n14 j.c14,.int .i64 x.hitem,.int .i64 j.v16,.int .i64 x.hstate,.int .i64 j.v18,.int .i64 j.v19,.bool x.gone,.int .i64 x.outcome]]++lb) W fun e w'=>e=.returned (.bool (p x))∧Below W.heap.size W w'
theorem Gf (g:Nat) (lb:Array Value) (eg:∀ args w,(callFunc g args).run Tryz.prog w=.ok (.enter g args) w) (p:EvM→Bool) (A:Option Addr) (c:Nat) (l:List EvM) (w:World)
    (hl:l.length≤1000) (h:Rows BD 22 w w.heap.size A l) (hp:Tt g lb l p w) :
    Calls Tryz.prog 70 #[.slice A l.length c,.func (.func g) #[] lb] w fun e w'=>e=.returned (.int .i64 (Ae p l))∧Below w.heap.size w w':=by
 have HP:=hide hp;clear hp
 have HE:=hide h
 clear h
 go_enter Tryz.func70,Tryz.ntmps70
 go_wp2_with fail
 go_loopw [8] (fun i wr=>∃ k:Nat,k≤l.length∧i=.int .i64 k∧Below w.heap.size w wr∧Hid (∀ j (hj:j<l.length),j<k→p l[j]=false)) (fun i _=>l.length - (intOf i).toNat)
 case atStart=>exact⟨0,Nat.zero_le _,rfl,Below.refl _ _,fun j hj h0=>absurd h0 (by omega)⟩
 case round =>
  obtain⟨k,hk,rfl,hbr,hs⟩:=hrel
  by_cases hlt:k<l.length
  · obtain ⟨x,hx⟩:∃ x,l[k]=x:=⟨_,rfl⟩
    obtain⟨b,off,j,hA,hb,_,_,_,hc⟩:=(HE.out.below hbr).evRange hlt hx
    have hC:=HP.out x j (by rw[← hx];exact List.getElem_mem hlt) wr hbr
    have HCR:=hide hc
    subst hA
    have hlI:(k:Int)<(l.length:Int):=by omega
    have HXX:=hide hx
    clear hc
    cases hpk:p x
    · rw [hpk] at hC
      have HC:=hide hC
      clear hC hx
      go_wp2_with (first
       | (refine wpList_load_mid (op:=⟨some 15,_,_,_,_,_⟩) rfl 85 _ rfl b (off+k*22) rfl [.int .i64 x.kind,.int .i64 x.mach,.int .i64 j.v2,.int .i64 j.v3,.int .i64 x.group,.int .i64 j.v5,.string j.v6,.int .i64 j.v7,.int .i64 j.v8,.int .i64 j.v9,.bool j.v10,.int .i64 j.v11,.slice j.A x.old.length j.c,.slice j.A13 j.n13 j.c13,.slice j.A14 j.n14 j.c14,.int .i64 x.hitem,.int .i64 j.v16,.int .i64 x.hstate,.int .i64 j.v18,.int .i64 j.v19,.bool x.gone,.int .i64 x.outcome] _ HCR.out Tryz.underlying85 rfl Ck ?_)
       | ((with_reducible refine Calls.mono HC.out ?_);rintro e w1 ⟨rfl,hb1⟩))
      go_roundw
      case rel=>exact⟨k+1,by omega,by go_num,hbr.trans (hb1.mono hbr.size),fun q hq h1=>by
       rcases Nat.lt_or_ge q k with h2|h2
       · exact hs q hq h2
       · obtain rfl:q=k:=by omega
         rw[HXX.out];exact hpk⟩
      case measure=>simp[intOf];omega
    · rw[hpk] at hC
      have HC:=hide hC
      have HF:=hide (CF (p:=p) hlt (by rw[HXX.out];exact hpk) hs)
      clear hC hx
      go_wp2_with (first
       | (refine wpList_load_mid (op:=⟨some 15,_,_,_,_,_⟩) rfl 85 _ rfl b (off+k*22) rfl [.int .i64 x.kind,.int .i64 x.mach,.int .i64 j.v2,.int .i64 j.v3,.int .i64 x.group,.int .i64 j.v5,.string j.v6,.int .i64 j.v7,.int .i64 j.v8,.int .i64 j.v9,.bool j.v10,.int .i64 j.v11,.slice j.A x.old.length j.c,.slice j.A13 j.n13 j.c13,.slice j.A14 j.n14 j.c14,.int .i64 x.hitem,.int .i64 j.v16,.int .i64 x.hstate,.int .i64 j.v18,.int .i64 j.v19,.bool x.gone,.int .i64 x.outcome] _ HCR.out Tryz.underlying85 rfl Ck ?_)
       | ((with_reducible refine Calls.mono HC.out ?_);rintro e w1 ⟨rfl,hb1⟩))
      go_ret
      exact⟨AJ (by rw[HF.out];rfl),hbr.trans (hb1.mono hbr.size)⟩
  · have HF:=hide (Ba fun j hj=>hs j hj (by omega))
    go_wp2_with fail
    go_ret
    exact⟨AJ (by rw[HF.out];rfl),hbr⟩
theorem PS (x:EvM) (j:EvJ) (W:World):Calls Tryz.prog 80 #[.agg #[.int .i64 x.kind,.int .i64 x.mach,.int .i64 j.v2,.int .i64 j.v3,.int .i64 x.group,.int .i64 j.v5,.string j.v6,.int .i64 j.v7,.int .i64 j.v8,.int .i64 j.v9,.bool j.v10,.int .i64 j.v11,.slice j.A x.old.length j.c,.slice j.A13 j.n13 j.c13,.slice j.A14 j.n14 j.c14,.int .i64 x.hitem,.int .i64 j.v16,.int .i64 x.hstate,.int .i64 j.v18,.int .i64 j.v19,.bool x.gone,.int .i64 x.outcome]] W fun e w'=>e=.returned (.bool (decide (x.kind=4)))∧Below W.heap.size W w':=by
 have HB:=hide ((Below.refl W.heap.size W).alloc (Nat.le_refl _) (.cells #[.int .i64 x.kind,.int .i64 x.mach,.int .i64 j.v2,.int .i64 j.v3,.int .i64 x.group,.int .i64 j.v5,.string j.v6,.int .i64 j.v7,.int .i64 j.v8,.int .i64 j.v9,.bool j.v10,.int .i64 j.v11,.slice j.A x.old.length j.c,.slice j.A13 j.n13 j.c13,.slice j.A14 j.n14 j.c14,.int .i64 x.hitem,.int .i64 j.v16,.int .i64 x.hstate,.int .i64 j.v18,.int .i64 j.v19,.bool x.gone,.int .i64 x.outcome] 85))
 go_enter Tryz.func80,Tryz.ntmps80
 go_wp2_with fail
 go_ret
 exact⟨rfl,HB.out⟩
theorem TQ (x:EvM) (j:EvJ) (W:World):Calls Tryz.prog 71 #[.agg #[.int .i64 x.kind,.int .i64 x.mach,.int .i64 j.v2,.int .i64 j.v3,.int .i64 x.group,.int .i64 j.v5,.string j.v6,.int .i64 j.v7,.int .i64 j.v8,.int .i64 j.v9,.bool j.v10,.int .i64 j.v11,.slice j.A x.old.length j.c,.slice j.A13 j.n13 j.c13,.slice j.A14 j.n14 j.c14,.int .i64 x.hitem,.int .i64 j.v16,.int .i64 x.hstate,.int .i64 j.v18,.int .i64 j.v19,.bool x.gone,.int .i64 x.outcome]] W fun e w'=>e=.returned (.bool (decide (x.kind=5)))∧Below W.heap.size W w':=by
 have HB:=hide ((Below.refl W.heap.size W).alloc (Nat.le_refl _) (.cells #[.int .i64 x.kind,.int .i64 x.mach,.int .i64 j.v2,.int .i64 j.v3,.int .i64 x.group,.int .i64 j.v5,.string j.v6,.int .i64 j.v7,.int .i64 j.v8,.int .i64 j.v9,.bool j.v10,.int .i64 j.v11,.slice j.A x.old.length j.c,.slice j.A13 j.n13 j.c13,.slice j.A14 j.n14 j.c14,.int .i64 x.hitem,.int .i64 j.v16,.int .i64 x.hstate,.int .i64 j.v18,.int .i64 j.v19,.bool x.gone,.int .i64 x.outcome] 85))
 go_enter Tryz.func71,Tryz.ntmps71
 go_wp2_with fail
 go_ret
 exact⟨rfl,HB.out⟩
def BV(l:List EvM):Int:=Ae (fun x=>decide (x.kind=5)) l
theorem EU (A:Option Addr) (c:Nat) (l:List EvM) (w:World) (hl:l.length≤1000) (h:Rows BD 22 w w.heap.size A l) :
    Calls Tryz.prog 30 #[.slice A l.length c] w (Br w (.int .i64 (BV l))):=by
 have HC:=hide (Gf 71 #[] (fun _ _=>by kernel_rfl) (fun x=>decide (x.kind=5)) A c l w hl h (fun x j _ W _=>TQ x j W))
 clear h
 go_enter Tryz.func30,Tryz.ntmps30
 go_wp2_with (go_at_call 70;refine HC.out.mono ?_;rintro e w1 ⟨rfl,hb1⟩)
 go_ret
 exact⟨rfl,hb1⟩
theorem UT.cellsAt {w:World} {g off c:Nat} {l:List AO} (h:UT w (.slice (some ⟨g,off,none⟩) l.length c) l) (hn:0<l.length):∀ (j:Nat) (u:Value),(AL l)[j]? = some u→w.cell? ⟨g,off+j,none⟩=some u:=by
 obtain⟨A',c',e,_,_,h3⟩:=h
 obtain⟨g2,off2,cur,e2,hb,hc⟩:=h3 hn
 have e1:=(Value.slice.inj e).1
 rw[e2] at e1
 have:=Option.some.inj e1
 obtain⟨rfl,rfl⟩:g=g2∧off=off2:=by injection this with h1 h2;exact⟨h1,h2⟩
 intro j u hu
 rw[hb.cell];exact hc j u hu
theorem UT.some_ {w:World} {A:Option Addr} {c:Nat} {l:List AO} (h:UT w (.slice A l.length c) l) (hn:0<l.length):∃ g off,A=some ⟨g,off,none⟩∧g<w.heap.size∧l.length≤c∧c≤9223372036854775807:=by
 obtain⟨A',c',e,h1,h2,h3⟩:=h
 obtain⟨g,off,cur,e2,hb,_⟩:=h3 hn
 have e1:=Value.slice.inj e
 rw[e2] at e1
 exact⟨g,off,e1.1,hb.lt,by rw[e1.2.2];exact h1,by rw[e1.2.2];exact h2⟩
theorem UT.first {w:World} {g off c n:Nat} {l:List AO} (h:UT w (.slice (some ⟨g,off,none⟩) l.length c) l) (hn:0<l.length) {k:Nat} (hk:k≤l.length) (he:n=k):UT w (.slice (some ⟨g,off,none⟩) (l.take k).length n) (l.take k):=by
 obtain⟨A',c',e,h1,h2,h3⟩:=h
 obtain⟨g2,off2,cur,e2,hb,hc⟩:=h3 hn
 have e1:=(Value.slice.inj e).1
 rw[e2] at e1
 have:=Option.some.inj e1
 obtain⟨rfl,rfl⟩:g=g2∧off=off2:=by injection this with h1 h2;exact⟨h1,h2⟩
 refine⟨_,n,rfl,by simp;omega,by omega,fun _=>⟨g,off,cur,rfl,hb,fun j u hu=>hc j u ?_⟩⟩
 rw[← EL] at hu
 rw[List.getElem?_take] at hu
 split at hu
 · exact hu
 · cases hu
theorem LJ{l:List AO}{mc:Int}(h:Ch l mc=none):DX l mc=l:=by simp[DX,h]
theorem LK{l:List AO}{mc:Int}{i:Nat}(h:Ch l mc=some i):DX l mc=l.take i++l.drop (i+1):=by simp[DX,h]
theorem PH (mc:Int) (bi:Nat) (A2:Option Addr) (c2:Nat) (l:List AO) (W:World) (hI:AB W bi 3 #[.int .i64 (Cg l mc)]) (h:UT W (.slice A2 l.length c2) l) (hl:l.length≤1000) :
    Calls Tryz.prog 171 #[.slice A2 l.length c2,.pointer (some ⟨bi,0,none⟩)] W (E9 W (.slice A2 l.length c2) (DX l mc)):=by
 cases hf:Ch l mc with
 | none =>
   have e0:Cg l mc = -1:=by rw[Dw,hf]
   rw[e0] at hI
   have x0:=hI.cell 0
   have xl:=hI.lt
   simp at x0
   have HD:=hide (LJ hf)
   clear hf e0 hI
   go_enter Tryz.func171,Tryz.ntmps171
   go_wp2_with fail
   go_ret
   rw[HD.out]
   exact⟨A2,c2,rfl,h,World.grownBy.refl W _⟩
 | some i =>
   have hil:i<l.length:=(List.findIdx?_eq_some_iff_getElem.1 hf).1
   have e0:Cg l mc=(i:Int):=by rw[Dw,hf]
   rw[e0] at hI
   have x0:=hI.cell 0
   have xl:=hI.lt
   simp at x0
   obtain⟨g,off,rfl,hgl,hlc,hcm⟩:=h.some_ (by omega)
   have HD:=hide (LK hf)
   have HC:=hide (h.cellsAt (by omega))
   have hil1:(i:Int)≤(c2:Int):=by omega
   have hil2:(i:Int)≤(l.length:Int):=by omega
   have hil3:(0:Int)≤(i:Int)+1:=by omega
   have hil4:(i:Int)+1≤(l.length:Int):=by omega
   have hil5:(l.length:Int)≤(c2:Int):=by omega
   have hw1:IntKind.i64.wrap ((i:Int)+1)=(i:Int)+1:=IntWalk.i64_in _ (by omega)
   have hw2:((i:Int)+1).toNat=i+1:=by omega
   have HH:=hide h
   clear hf e0 hI h
   by_cases hm:i+1=l.length
   · have HM := hide hm
     have hE:=hide (show l.take i++l.drop (i+1)=l.take i by rw[List.drop_eq_nil_of_le (by omega),List.append_nil])
     obtain⟨i0,hi,hz0,hz1,hz2⟩:=info_parts ME
     have hil6:(i:Int)≤(i:Int)+1:=by omega
     have hil7:(l.length:Int)≤(i:Int)+1:=by omega
     by_cases hcc:c2=i+1
     all_goals
      clear hm
      go_enter Tryz.func171,Tryz.ntmps171
      go_wp2_with fail
      first
       | (go_region_law
           ((first
             | (refine step_append_room rfl _ _ _ rfl 72 i0 2 Tryz.underlying57 hi hz1 g off i i rfl ⟨g,off,none⟩ _ _ [] rfl (by have:=HM.out;simp;omega) (fun j u hu=>by simp at hu) (by simp) (by have:=HM.out;omega) (fun j hj=>absurd hj (by simp)) ?_;rw[show W.drew.setCells g (off+i*2) []=W.drew from rfl]))))
       | (go_region_law
           ((first
             | (refine step_append_room rfl _ _ _ rfl 72 i0 2 Tryz.underlying57 hi hz1 g off i i rfl ⟨g,off+(i+1)*2,none⟩ _ _ [] rfl (by have:=HM.out;simp;omega) (fun j u hu=>by simp at hu) (by simp) (by have:=HM.out;omega) (fun j hj=>absurd hj (by simp)) ?_;rw[show W.drew.setCells g (off+i*2) []=W.drew from rfl]))))
      all_goals
       go_wp2_with fail
       go_ret
       rw[HD.out,hE.out]
       have hh:=HH.out
       have hlt:(l.take i).length=i:=by simp;omega
       have hmo:=HM.out
       refine⟨some ⟨g,off,none⟩,i,?_,(hh.first (by omega) (by omega) rfl).keep (KT.drew W),⟨rfl,rfl,rfl,Nat.le_refl _,fun _ _ _=>rfl⟩⟩
       rw[hlt]
       refine AJ ?_
       simp[Act.put]
       try omega
   · have hne:¬ c2=i+1:=by omega
     obtain⟨i0,hi,hz0,hz1,hz2⟩:=info_parts ME
     go_enter Tryz.func171,Tryz.ntmps171
     go_wp2_with fail
     go_region_law
      ((first
        | (refine step_append_grows rfl _ _ _ rfl 72 i0 _ 2 16 Tryz.underlying57 hi hz0 hz1 hz2 rfl (by decide) (some ⟨g,off,none⟩) i i (AL (l.take i)) rfl (fun h=>by cases h) (by rw[Bi,List.length_take];omega) (fun b hb j u hu=>by
             injection hb with hb
             subst hb
             rw[BA]
             refine HC.out j u ?_
             rw[← EL,List.getElem?_take] at hu
             split at hu
             · exact hu
             · cases hu) ⟨g,off+(i+1)*2,none⟩ (l.length - (i+1)) _ (AL (l.drop (i+1))) rfl (by rw[Bi,List.length_drop]) (fun j u hu=>by
             rw[BA,Nat.add_assoc]
             refine HC.out _ u ?_
             rw[← FH,List.getElem?_drop] at hu
             exact hu) (Cb _) (by omega) (by unfold maxLen;omega) (by omega) ?_;intro v1 w1 ho1 hg1)))
     all_goals
      go_wp2_with fail
      go_ret
      rw[HD.out]
      have hO:Ad W.heap.size w1 v1 (l.take i++l.drop (i+1)):=by
       have e:i+(l.length - (i+1))=(l.take i++l.drop (i+1)).length:=by simp;omega
       unfold Ad
       rw[DR,← e]
       exact ho1
      obtain⟨A3,c3,rfl,_⟩:=hO.ut.form
      exact⟨A3,c3,rfl,hO.ut,⟨hg1.os,hg1.tape,hg1.output,hg1.size,fun k hk _=>hg1.block k hk (by simp)⟩⟩
def DW(p:AA):Prop:=p.length≤1000∧∀ l∈p,l.length≤999
theorem DW.units {p:AA} (h:DW p) (item:Int):(AQ p item).length≤999:=by
 unfold AQ
 split
 · rename_i hi
   have hi2:1≤item∧item≤(p.length:Int):=by simpa[AP] using hi
   have hj:(item - 1).toNat<p.length:=by omega
   rw[List.getD_eq_getElem?_getD,List.getElem?_eq_getElem hj]
   exact h.2 _ (List.getElem_mem _)
 · simp
theorem DW.each{p:AA}(h:DW p):∀ l∈p,l.length≤1000:=fun l hl=>by have:=h.2 l hl;omega
theorem NR (g:Nat) (lb:Array Value) (eg:∀ args w,(callFunc g args).run Tryz.prog w=.ok (.enter g args) w) (A:Option Addr) (c:Nat) (p:AA) (item:Int) (l:List AO) (w:World) (h:PT w (.slice A p.length c) p) (hs:DW p)
    (hch:∀ (W:World) (A2:Option Addr) (c2:Nat),Below w.heap.size w W→Ad w.heap.size W (.slice A2 (AQ p item).length c2) (AQ p item)→AP item p.length=true→Calls Tryz.prog g (#[.slice A2 (AQ p item).length c2]++lb) W (E9 W (.slice A2 (AQ p item).length c2) l)) :
    Calls Tryz.prog 170 #[.agg #[.slice A p.length c],.int .i64 item,.func (.func g) #[] lb] w (BG w (BL p item l)):=by
 cases hi:AP item p.length
 · exact Ti g lb A c p item l w h hs.1 hs.each hi
 · have hit:1≤item∧item≤(p.length:Int):=by simpa[AP] using hi
   obtain⟨j,hj,rfl⟩:∃ j:Nat,j<p.length∧item=(j:Int)+1:=⟨(item - 1).toNat,by omega,by omega⟩
   refine Sb g lb eg A c p j hj l w h hs.1 hs.each fun W A2 c2 hW hO=>?_
   have:=hch W A2 c2 hW (by rw[DJ hj];exact hO) hi
   rw[DJ hj] at this
   exact this
theorem Ij (A:Option Addr) (c:Nat) (p:AA) (item mc:Int) (w:World) (h:PT w (.slice A p.length c) p) (hs:DW p) :
    Calls Tryz.prog 118 #[.agg #[.slice A p.length c],.int .i64 item,.int .i64 mc] w (BG w (Cf p item mc)):=by
 have hB:=(((Below.refl w.heap.size w).alloc (Nat.le_refl _) (.cells #[.slice A p.length c] 56)).alloc (by simp) (.cells #[.slice none 0 0] 56))
 have HB:=hide hB
 have hul:=hs.units item
 have HF:=hide (Il A c p item mc _ (h.below hB) (by have:=hs.1;omega) (by omega))
 have HX:=hide (AB.alloc (AB.new w 56 #[.slice A p.length c]) (.cells #[.slice none 0 0] 56))
 have HY:=hide (show AB ((w.alloc (.cells #[.slice A p.length c] 56)).alloc (.cells #[.slice none 0 0] 56)) (w.heap.size+1) 56 #[.slice none 0 0] by simpa using AB.new (w.alloc (.cells #[.slice A p.length c] 56)) 56 #[.slice none 0 0])
 have HP:=hide (And.intro h hs)
 have hwl:=Cc p item (DX (AQ p item) mc)
 have HWL:=hide hwl
 clear hB h hs hwl
 go_enter Tryz.func118,Tryz.ntmps118
 go_wp2_with (first
  | (go_at_call 169;refine HF.out.mono ?_;rintro e w1 ⟨rfl,hb1⟩
     have hX1:=HX.out.below hb1 (by simp <;> omega)
     have hY1:=HY.out.below hb1 (by simp <;> omega)
     have z0:=hX1.cell 0
     have zl:=hX1.lt
     simp at z0
     have HX1:=hide hX1
     have HY1:=hide hY1
     have HB1:=hide (HB.out.trans (hb1.mono HB.out.size))
     have HI1:=hide (AB.new w1 3 #[.int .i64 (Cg (AQ p item) mc)])
     have HWI:=hide (NR 171 #[.pointer (some ⟨w1.heap.size,0,none⟩)] (fun _ _=>by kernel_rfl) A c p item (DX (AQ p item) mc) (w1.alloc (.cells #[.int .i64 (Cg (AQ p item) mc)] 3)) ((HP.out.1.below HB1.out).keep (KT.alloc _ _) (KT.alloc _ _)) HP.out.2
      (fun W A2 c2 hW hO _=>PH mc w1.heap.size A2 c2 (AQ p item) W (HI1.out.below hW (by simp)) hO.ut (by omega)))
     clear hX1 hY1 hb1)
  | (go_at_call 170;refine HWI.out.mono ?_;rintro e w2 ⟨A2,c2,rfl,hPT,hb2⟩
     have hY2:=(HY1.out.alloc (.cells #[.int .i64 (Cg (AQ p item) mc)] 3)).below hb2 (AB.lt (HY1.out.alloc _))
     have y0:=hY2.cell 0
     have yf:=hY2.frozen 0
     have yl:=hY2.lt
     simp at y0
     have HY2:=hide hY2
     have HPT:=hide hPT
     have HB2:=hide ((HB1.out.alloc HB1.out.size (.cells #[.int .i64 (Cg (AQ p item) mc)] 3)).trans (hb2.mono (by have:=HB1.out.size;simp;omega)))
     clear hY2 hPT hb2))
 refine bodyPost_ret (v:=.agg #[.slice A2 (BL p item (DX (AQ p item) mc)).length c2]) (by simp[results,Tryz.results118,go_sem, *]) rfl ?_
 exact⟨A2,c2,rfl,HPT.out.keep (KT.set_ HY2.out (by decide) 0 _) (KT.set_ HY2.out (by decide) 0 _),HB2.out.setCell (by simp) _⟩
end Go.Proofs.YtfemlajeomohhaaGreatDoor
