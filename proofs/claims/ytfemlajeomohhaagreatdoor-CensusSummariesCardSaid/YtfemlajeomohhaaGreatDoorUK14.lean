/- A part of the claim: see its last text. -/
import Derived.Test.YtfemlajeomohhaaGreatDoorUK12
import Derived.Test.YtfemlajeomohhaaGreatDoorUK13
import Derived.Laws.EntriesVeiled

set_option maxRecDepth 100000
set_option maxHeartbeats 16000000
namespace Go.Proofs.YtfemlajeomohhaaGreatDoor
open Go Go.RowKit Go.Proofs
def sk(m:AC):Array MapEntry:=#[{ key:=.int .i64 1,val:=.agg #[.int .i64 m.mT.length,.func (.func 125) #[] #[]],born:=0 },{ key:=.int .i64 2,val:=.agg #[.int .i64 m.rT.length,.func (.func 126) #[] #[]],born:=1 },{ key:=.int .i64 3,val:=.agg #[.int .i64 m.fT.length,.func (.func 127) #[] #[]],born:=2 },{ key:=.int .i64 4,val:=.agg #[.int .i64 m.sT.length,.func (.func 128) #[] #[]],born:=3 }]
def Tp(m:AC)(w:World)(e:Ending)(w':World):Prop:=∃ r,e=.returned (.map (some r))∧w'.heap[r]? = some (.map (sk m) 4)∧Below w.heap.size w w'
theorem BQ(w:World):(zeroValue 117).run Tryz.prog w=.ok (.agg #[.int .i64 0,.nilFunc]) w:=by kernel_rfl
theorem BP (h:MH) (m:AC) (w:World) (_l0:m.mT.length≤9223372036854775807) (_l1:m.rT.length≤9223372036854775807) (_l2:m.fT.length≤9223372036854775807) (_l3:m.sT.length≤9223372036854775807) :
    Calls Tryz.prog 72 #[.agg #[.slice h.s m.sT.length h.sc,.slice h.f m.fT.length h.fc,.slice h.r m.rT.length h.rc,.slice h.m m.mT.length h.mc,.slice h.l m.lT.length h.lc,.slice h.i m.iT.length h.ic,.int .i64 m.dT,.int .i64 m.oT,.int .i64 m.vT,.int .i64 m.aT,.slice h.u m.uT.length h.uc]] w (Tp m w):=by
 have HB:=hide (((Below.refl w.heap.size w).alloc (Nat.le_refl _) (.cells #[.slice h.s m.sT.length h.sc,.slice h.f m.fT.length h.fc,.slice h.r m.rT.length h.rc,.slice h.m m.mT.length h.mc,.slice h.l m.lT.length h.lc,.slice h.i m.iT.length h.ic,.int .i64 m.dT,.int .i64 m.oT,.int .i64 m.vT,.int .i64 m.aT,.slice h.u m.uT.length h.uc] 29)).alloc (by simp) (.map (sk m) 4))
 have HE:=hide (show(w.alloc (.cells #[.slice h.s m.sT.length h.sc,.slice h.f m.fT.length h.fc,.slice h.r m.rT.length h.rc,.slice h.m m.mT.length h.mc,.slice h.l m.lT.length h.lc,.slice h.i m.iT.length h.ic,.int .i64 m.dT,.int .i64 m.oT,.int .i64 m.vT,.int .i64 m.aT,.slice h.u m.uT.length h.uc] 29)).heap.size=w.heap.size+1 by simp)
 have hmm:=@run_makeMap Tryz.prog
 go_enter Tryz.func72,Tryz.ntmps72
 go_wp2_with (first
  | go_loud (refine DF (w0:=w.alloc (.cells #[.slice h.s m.sT.length h.sc,.slice h.f m.fT.length h.fc,.slice h.r m.rT.length h.rc,.slice h.m m.mT.length h.mc,.slice h.l m.lT.length h.lc,.slice h.i m.iT.length h.ic,.int .i64 m.dT,.int .i64 m.oT,.int .i64 m.vT,.int .i64 m.aT,.slice h.u m.uT.length h.uc] 29)) (es:=#[]) (c:=0) (vv:=.agg #[.int .i64 m.mT.length,.func (.func 125) #[] #[]]) rfl rfl _ _ _ _ rfl Tryz.underlying119 Tryz.underlying3 rfl rfl HE.out.symm rfl rfl rfl ?_)
  | go_loud (refine DF (w0:=w.alloc (.cells #[.slice h.s m.sT.length h.sc,.slice h.f m.fT.length h.fc,.slice h.r m.rT.length h.rc,.slice h.m m.mT.length h.mc,.slice h.l m.lT.length h.lc,.slice h.i m.iT.length h.ic,.int .i64 m.dT,.int .i64 m.oT,.int .i64 m.vT,.int .i64 m.aT,.slice h.u m.uT.length h.uc] 29)) (c:=1) (vv:=.agg #[.int .i64 m.rT.length,.func (.func 126) #[] #[]]) rfl rfl _ _ _ _ rfl Tryz.underlying119 Tryz.underlying3 rfl rfl HE.out.symm rfl rfl rfl ?_)
  | go_loud (refine DF (w0:=w.alloc (.cells #[.slice h.s m.sT.length h.sc,.slice h.f m.fT.length h.fc,.slice h.r m.rT.length h.rc,.slice h.m m.mT.length h.mc,.slice h.l m.lT.length h.lc,.slice h.i m.iT.length h.ic,.int .i64 m.dT,.int .i64 m.oT,.int .i64 m.vT,.int .i64 m.aT,.slice h.u m.uT.length h.uc] 29)) (c:=2) (vv:=.agg #[.int .i64 m.fT.length,.func (.func 127) #[] #[]]) rfl rfl _ _ _ _ rfl Tryz.underlying119 Tryz.underlying3 rfl rfl HE.out.symm rfl rfl rfl ?_)
  | go_loud (refine DF (w0:=w.alloc (.cells #[.slice h.s m.sT.length h.sc,.slice h.f m.fT.length h.fc,.slice h.r m.rT.length h.rc,.slice h.m m.mT.length h.mc,.slice h.l m.lT.length h.lc,.slice h.i m.iT.length h.ic,.int .i64 m.dT,.int .i64 m.oT,.int .i64 m.vT,.int .i64 m.aT,.slice h.u m.uT.length h.uc] 29)) (c:=3) (vv:=.agg #[.int .i64 m.sT.length,.func (.func 128) #[] #[]]) rfl rfl _ _ _ _ rfl Tryz.underlying119 Tryz.underlying3 rfl rfl HE.out.symm rfl rfl rfl ?_))
 go_ret
 exact⟨w.heap.size+1,rfl,by have:=heap_alloc_new (w.alloc (.cells #[.slice h.s m.sT.length h.sc,.slice h.f m.fT.length h.fc,.slice h.r m.rT.length h.rc,.slice h.m m.mT.length h.mc,.slice h.l m.lT.length h.lc,.slice h.i m.iT.length h.ic,.int .i64 m.dT,.int .i64 m.oT,.int .i64 m.vT,.int .i64 m.aT,.slice h.u m.uT.length h.uc] 29)) (.map (sk m) 4);rw[HE.out] at this;exact this,HB.out⟩
theorem IJ(m:AC):Instr.findNow (.int .i64) (.int .i64 1) (sk m).toList 0=some (some (0,.agg #[.int .i64 m.mT.length,.func (.func 125) #[] #[]])):=rfl
theorem IK(m:AC):Instr.findNow (.int .i64) (.int .i64 2) (sk m).toList 0=some (some (1,.agg #[.int .i64 m.rT.length,.func (.func 126) #[] #[]])):=rfl
theorem GQ(m:AC):Instr.findNow (.int .i64) (.int .i64 3) (sk m).toList 0=some (some (2,.agg #[.int .i64 m.fT.length,.func (.func 127) #[] #[]])):=rfl
theorem GR(m:AC):Instr.findNow (.int .i64) (.int .i64 4) (sk m).toList 0=some (some (3,.agg #[.int .i64 m.sT.length,.func (.func 128) #[] #[]])):=rfl
theorem Oy (m:AC) {k:Int} (h:¬ (k=1∨k=2∨k=3∨k=4)):Instr.findNow (.int .i64) (.int .i64 k) (sk m).toList 0=some none:=by
 refine Eu _ _ fun e he=>?_
 simp[sk] at he
 rcases he with rfl|rfl|rfl|rfl
 · exact⟨1,rfl,fun e=>h (.inl e)⟩
 · exact⟨2,rfl,fun e=>h (.inr (.inl e))⟩
 · exact⟨3,rfl,fun e=>h (.inr (.inr (.inl e)))⟩
 · exact⟨4,rfl,fun e=>h (.inr (.inr (.inr e)))⟩
theorem JZ (m:AC) {k:Int} (h:¬ (k=1∨k=2∨k=3∨k=4)):AZ m k=0:=by
 unfold AZ
 repeat' split
 all_goals (first|rfl|(exfalso;apply h;omega))
theorem Nt(n:Int)(f:Value)(W:World):(Instr.field 117 (.agg #[.int .i64 n,f]) 0).run Tryz.prog W=.ok (.int .i64 n) W:=by kernel_rfl
theorem Ii (h:MH) (m:AC) (k:Int) (w:World) (l0:m.mT.length≤9223372036854775807) (l1:m.rT.length≤9223372036854775807) (l2:m.fT.length≤9223372036854775807) (l3:m.sT.length≤9223372036854775807) :
    Calls Tryz.prog 211 #[.agg #[.slice h.s m.sT.length h.sc,.slice h.f m.fT.length h.fc,.slice h.r m.rT.length h.rc,.slice h.m m.mT.length h.mc,.slice h.l m.lT.length h.lc,.slice h.i m.iT.length h.ic,.int .i64 m.dT,.int .i64 m.oT,.int .i64 m.vT,.int .i64 m.aT,.slice h.u m.uT.length h.uc],.int .i64 k] w (fun e w'=>e=.returned (.int .i64 (AZ m k))∧Below w.heap.size w w'):=by
 have HB:=hide ((Below.refl w.heap.size w).alloc (Nat.le_refl _) (.cells #[.slice h.s m.sT.length h.sc,.slice h.f m.fT.length h.fc,.slice h.r m.rT.length h.rc,.slice h.m m.mT.length h.mc,.slice h.l m.lT.length h.lc,.slice h.i m.iT.length h.ic,.int .i64 m.dT,.int .i64 m.oT,.int .i64 m.vT,.int .i64 m.aT,.slice h.u m.uT.length h.uc] 29))
 have HK:=hide (BP h m (w.alloc (.cells #[.slice h.s m.sT.length h.sc,.slice h.f m.fT.length h.fc,.slice h.r m.rT.length h.rc,.slice h.m m.mT.length h.mc,.slice h.l m.lT.length h.lc,.slice h.i m.iT.length h.ic,.int .i64 m.dT,.int .i64 m.oT,.int .i64 m.vT,.int .i64 m.aT,.slice h.u m.uT.length h.uc] 29)) l0 l1 l2 l3)
 obtain ⟨o,v,b,hf,hp⟩:∃ o f b,Instr.findNow (.int .i64) (.int .i64 k) (sk m).toList 0=some o∧Fy o (.agg #[.int .i64 0,.nilFunc])=(.agg #[.int .i64 (AZ m k),f],b):=by
  by_cases hk:k=1∨k=2∨k=3∨k=4
  · rcases hk with rfl|rfl|rfl|rfl
    · exact⟨_,_,_,IJ m,rfl⟩
    · exact⟨_,_,_,IK m,rfl⟩
    · exact⟨_,_,_,GQ m,rfl⟩
    · exact⟨_,_,_,GR m,rfl⟩
  · exact⟨_,_,_,Oy m hk,by rw[JZ m hk];rfl⟩
 have HL:=hide (fun(w:World) (r:Nat) (hg:w.heap[r]? = some (.map (sk m) 4))=>Db Tryz.underlying119 Tryz.underlying3 (BQ w) hg hf hp)
 clear hf hp
 have hfd:=Nt (AZ m k) v
 go_enter Tryz.func211,Tryz.ntmps211
 go_wp2_with (go_at_call 72;refine HK.out.mono ?_;rintro e w1 ⟨r,rfl,hm,hb⟩;have hlk:=HL.out w1 r hm;have HB1:=hide (HB.out.trans (hb.mono HB.out.size)))
 go_ret
 exact⟨rfl,HB1.out⟩
def EC(m:AC)(by_ mc:Int)(w:World)(e:Ending)(w':World):Prop:=e=.returned (.int .i64 (BN m by_ mc))∧Below w.heap.size w w'
theorem FO{m:AC}{by_ mc:Int}(h:AP mc m.mT.length=false):BN m by_ mc=0:=by simp[BN,h]
theorem PG {m:AC} {by_ mc:Int} (h:¬ (by_=1∨by_=2∨by_=3∨by_=4)):BN m by_ mc=0:=by
 have:AP (Es m by_ mc) (AZ m by_)=false:=by rw[JZ m h];simp[AP];omega
 simp[BN,this]
theorem Gz {m:AC} {by_:Int} {a:Nat} (ha:a<m.mT.length) (hb:by_≠1) (hr:AP m.mT[a].rack m.rT.length=false):BN m by_ ((a:Int)+1)=0:=by
 have h1:Es m by_ ((a:Int)+1)=0:=by
  unfold Es
  rw[if_neg hb]
  simp[ha,hr]
 simp[BN,h1,AP]
theorem Mi (h:MH) (m:AC) (by_ mc:Int) (w:World) (l0:m.mT.length≤9223372036854775807) (l1:m.rT.length≤9223372036854775807) (l2:m.fT.length≤9223372036854775807) (l3:m.sT.length≤9223372036854775807) (hk:¬ (by_=1∨by_=2∨by_=3∨by_=4)) :
    Calls Tryz.prog 31 #[.agg #[.slice h.s m.sT.length h.sc,.slice h.f m.fT.length h.fc,.slice h.r m.rT.length h.rc,.slice h.m m.mT.length h.mc,.slice h.l m.lT.length h.lc,.slice h.i m.iT.length h.ic,.int .i64 m.dT,.int .i64 m.oT,.int .i64 m.vT,.int .i64 m.aT,.slice h.u m.uT.length h.uc],.int .i64 by_,.int .i64 mc] w (EC m by_ mc w):=by
 have HB:=hide (((Below.refl w.heap.size w).alloc (Nat.le_refl _) (.cells #[.slice h.s m.sT.length h.sc,.slice h.f m.fT.length h.fc,.slice h.r m.rT.length h.rc,.slice h.m m.mT.length h.mc,.slice h.l m.lT.length h.lc,.slice h.i m.iT.length h.ic,.int .i64 m.dT,.int .i64 m.oT,.int .i64 m.vT,.int .i64 m.aT,.slice h.u m.uT.length h.uc] 29)))
 have HM0:=hide (AB.new w 29 #[.slice h.s m.sT.length h.sc,.slice h.f m.fT.length h.fc,.slice h.r m.rT.length h.rc,.slice h.m m.mT.length h.mc,.slice h.l m.lT.length h.lc,.slice h.i m.iT.length h.ic,.int .i64 m.dT,.int .i64 m.oT,.int .i64 m.vT,.int .i64 m.aT,.slice h.u m.uT.length h.uc])
 have HK:=hide (BP h m (w.alloc (.cells #[.slice h.s m.sT.length h.sc,.slice h.f m.fT.length h.fc,.slice h.r m.rT.length h.rc,.slice h.m m.mT.length h.mc,.slice h.l m.lT.length h.lc,.slice h.i m.iT.length h.ic,.int .i64 m.dT,.int .i64 m.oT,.int .i64 m.vT,.int .i64 m.aT,.slice h.u m.uT.length h.uc] 29)) l0 l1 l2 l3)
 have HL:=hide (fun(w:World) (r:Nat) (hg:w.heap[r]? = some (.map (sk m) 4))=>Ak (b:=false) (v:=.agg #[.int .i64 0,.nilFunc]) Tryz.underlying119 Tryz.underlying3 (BQ w) hg (Oy m hk) rfl)
 have HV:=hide (PG (m:=m) (mc:=mc) hk)
 clear hk
 go_enter Tryz.func31,Tryz.ntmps31
 go_wp2_with (first
  | (go_at_call 72;refine HK.out.mono ?_;rintro e w1 ⟨r,rfl,hm,hb⟩;have hlk:=HL.out w1 r hm;have HB1:=hide (HB.out.trans (hb.mono HB.out.size));have hM1:=HM0.out.below hb (by simp);obtain⟨a0,a1,a2,a3,a4,a5,a6,a7,a8,a9,a10⟩:=MB.cells hM1;have al:=hM1.lt;clear hM1 hm hb)
  | (go_at_call 73;refine(Aq _ _ _).mono ?_;rintro e w2 ⟨rfl,rfl⟩))
 go_ret
 exact⟨by rw[HV.out];rfl,HB1.out.alloc HB1.out.size _⟩
theorem Kh (h:MH) (m:AC) (mc:Int) (w:World) (l0:m.mT.length≤9223372036854775807) (l1:m.rT.length≤9223372036854775807) (l2:m.fT.length≤9223372036854775807) (l3:m.sT.length≤9223372036854775807) (hx:AP mc m.mT.length=false) :
    Calls Tryz.prog 31 #[.agg #[.slice h.s m.sT.length h.sc,.slice h.f m.fT.length h.fc,.slice h.r m.rT.length h.rc,.slice h.m m.mT.length h.mc,.slice h.l m.lT.length h.lc,.slice h.i m.iT.length h.ic,.int .i64 m.dT,.int .i64 m.oT,.int .i64 m.vT,.int .i64 m.aT,.slice h.u m.uT.length h.uc],.int .i64 1,.int .i64 mc] w (EC m 1 mc w):=by
 have HB:=hide (((Below.refl w.heap.size w).alloc (Nat.le_refl _) (.cells #[.slice h.s m.sT.length h.sc,.slice h.f m.fT.length h.fc,.slice h.r m.rT.length h.rc,.slice h.m m.mT.length h.mc,.slice h.l m.lT.length h.lc,.slice h.i m.iT.length h.ic,.int .i64 m.dT,.int .i64 m.oT,.int .i64 m.vT,.int .i64 m.aT,.slice h.u m.uT.length h.uc] 29)))
 have HM0:=hide (AB.new w 29 #[.slice h.s m.sT.length h.sc,.slice h.f m.fT.length h.fc,.slice h.r m.rT.length h.rc,.slice h.m m.mT.length h.mc,.slice h.l m.lT.length h.lc,.slice h.i m.iT.length h.ic,.int .i64 m.dT,.int .i64 m.oT,.int .i64 m.vT,.int .i64 m.aT,.slice h.u m.uT.length h.uc])
 have HK:=hide (BP h m (w.alloc (.cells #[.slice h.s m.sT.length h.sc,.slice h.f m.fT.length h.fc,.slice h.r m.rT.length h.rc,.slice h.m m.mT.length h.mc,.slice h.l m.lT.length h.lc,.slice h.i m.iT.length h.ic,.int .i64 m.dT,.int .i64 m.oT,.int .i64 m.vT,.int .i64 m.aT,.slice h.u m.uT.length h.uc] 29)) l0 l1 l2 l3)
 have HL:=hide (fun(w:World) (r:Nat) (hg:w.heap[r]? = some (.map (sk m) 4))=>Ak (b:=true) (v:=.agg #[.int .i64 m.mT.length,.func (.func 125) #[] #[]]) Tryz.underlying119 Tryz.underlying3 (BQ w) hg (IJ m) rfl)
 have HV:=hide (FO (m:=m) (by_:=1) hx)
 go_enter Tryz.func31,Tryz.ntmps31
 go_wp2_with (first
  | (go_at_call 72;refine HK.out.mono ?_;rintro e w1 ⟨r,rfl,hm,hb⟩;have hlk:=HL.out w1 r hm;have HB1:=hide (HB.out.trans (hb.mono HB.out.size));have hM1:=HM0.out.below hb (by simp);obtain⟨a0,a1,a2,a3,a4,a5,a6,a7,a8,a9,a10⟩:=MB.cells hM1;have al:=hM1.lt;clear hM1 hm hb)
  | (go_at_call 73;refine(Aq _ _ _).mono ?_;rintro e w2 ⟨rfl,rfl⟩))
 go_ret
 exact⟨by rw[HV.out];rfl,HB1.out.alloc HB1.out.size _⟩
theorem M6 (mc rk:Int) (x:CQ) (w:World):Calls Tryz.prog 125 #[.int .i64 mc,.agg #[.string x.name,.int .i64 x.site,.int .i64 x.feed],.int .i64 rk] w (fun e w'=>e=.returned (.int .i64 mc)∧Below w.heap.size w w'):=by
 have HB:=hide ((Below.refl w.heap.size w).alloc (Nat.le_refl _) (.cells #[.string x.name,.int .i64 x.site,.int .i64 x.feed] 44))
 go_enter Tryz.func125,Tryz.ntmps125
 go_wp2_with fail
 go_ret
 exact⟨rfl,HB.out⟩
theorem Kj (h:MH) (m:AC) (mc:Int) (w:World) (l0:m.mT.length≤9223372036854775807) (l1:m.rT.length≤9223372036854775807) (l2:m.fT.length≤9223372036854775807) (l3:m.sT.length≤9223372036854775807) (hx:AP mc m.mT.length=false) :
    Calls Tryz.prog 31 #[.agg #[.slice h.s m.sT.length h.sc,.slice h.f m.fT.length h.fc,.slice h.r m.rT.length h.rc,.slice h.m m.mT.length h.mc,.slice h.l m.lT.length h.lc,.slice h.i m.iT.length h.ic,.int .i64 m.dT,.int .i64 m.oT,.int .i64 m.vT,.int .i64 m.aT,.slice h.u m.uT.length h.uc],.int .i64 2,.int .i64 mc] w (EC m 2 mc w):=by
 have HB:=hide (((Below.refl w.heap.size w).alloc (Nat.le_refl _) (.cells #[.slice h.s m.sT.length h.sc,.slice h.f m.fT.length h.fc,.slice h.r m.rT.length h.rc,.slice h.m m.mT.length h.mc,.slice h.l m.lT.length h.lc,.slice h.i m.iT.length h.ic,.int .i64 m.dT,.int .i64 m.oT,.int .i64 m.vT,.int .i64 m.aT,.slice h.u m.uT.length h.uc] 29)))
 have HM0:=hide (AB.new w 29 #[.slice h.s m.sT.length h.sc,.slice h.f m.fT.length h.fc,.slice h.r m.rT.length h.rc,.slice h.m m.mT.length h.mc,.slice h.l m.lT.length h.lc,.slice h.i m.iT.length h.ic,.int .i64 m.dT,.int .i64 m.oT,.int .i64 m.vT,.int .i64 m.aT,.slice h.u m.uT.length h.uc])
 have HK:=hide (BP h m (w.alloc (.cells #[.slice h.s m.sT.length h.sc,.slice h.f m.fT.length h.fc,.slice h.r m.rT.length h.rc,.slice h.m m.mT.length h.mc,.slice h.l m.lT.length h.lc,.slice h.i m.iT.length h.ic,.int .i64 m.dT,.int .i64 m.oT,.int .i64 m.vT,.int .i64 m.aT,.slice h.u m.uT.length h.uc] 29)) l0 l1 l2 l3)
 have HL:=hide (fun(w:World) (r:Nat) (hg:w.heap[r]? = some (.map (sk m) 4))=>Ak (b:=true) (v:=.agg #[.int .i64 m.rT.length,.func (.func 126) #[] #[]]) Tryz.underlying119 Tryz.underlying3 (BQ w) hg (IK m) rfl)
 have HV:=hide (FO (m:=m) (by_:=2) hx)
 go_enter Tryz.func31,Tryz.ntmps31
 go_wp2_with (first
  | (go_at_call 72;refine HK.out.mono ?_;rintro e w1 ⟨r,rfl,hm,hb⟩;have hlk:=HL.out w1 r hm;have HB1:=hide (HB.out.trans (hb.mono HB.out.size));have hM1:=HM0.out.below hb (by simp);obtain⟨a0,a1,a2,a3,a4,a5,a6,a7,a8,a9,a10⟩:=MB.cells hM1;have al:=hM1.lt;clear hM1 hm hb)
  | (go_at_call 73;refine(Aq _ _ _).mono ?_;rintro e w2 ⟨rfl,rfl⟩))
 go_ret
 exact⟨by rw[HV.out];rfl,HB1.out.alloc HB1.out.size _⟩
theorem R7 (mc rk:Int) (x:CQ) (w:World):Calls Tryz.prog 126 #[.int .i64 mc,.agg #[.string x.name,.int .i64 x.site,.int .i64 x.feed],.int .i64 rk] w (fun e w'=>e=.returned (.int .i64 rk)∧Below w.heap.size w w'):=by
 have HB:=hide ((Below.refl w.heap.size w).alloc (Nat.le_refl _) (.cells #[.string x.name,.int .i64 x.site,.int .i64 x.feed] 44))
 go_enter Tryz.func126,Tryz.ntmps126
 go_wp2_with fail
 go_ret
 exact⟨rfl,HB.out⟩
theorem Kk (h:MH) (m:AC) (a:Nat) (w:World) (d:MD w w.heap.size h m) (ha:a<m.mT.length) (hr:AP m.mT[a].rack m.rT.length=false) :
    Calls Tryz.prog 31 #[.agg #[.slice h.s m.sT.length h.sc,.slice h.f m.fT.length h.fc,.slice h.r m.rT.length h.rc,.slice h.m m.mT.length h.mc,.slice h.l m.lT.length h.lc,.slice h.i m.iT.length h.ic,.int .i64 m.dT,.int .i64 m.oT,.int .i64 m.vT,.int .i64 m.aT,.slice h.u m.uT.length h.uc],.int .i64 2,.int .i64 ((a:Int)+1)] w (EC m 2 ((a:Int)+1) w):=by
 have l0:=d.ml
 have l1:=d.rl
 have l2:=d.fl
 have l3:=d.sl
 have HB:=hide (((Below.refl w.heap.size w).alloc (Nat.le_refl _) (.cells #[.slice h.s m.sT.length h.sc,.slice h.f m.fT.length h.fc,.slice h.r m.rT.length h.rc,.slice h.m m.mT.length h.mc,.slice h.l m.lT.length h.lc,.slice h.i m.iT.length h.ic,.int .i64 m.dT,.int .i64 m.oT,.int .i64 m.vT,.int .i64 m.aT,.slice h.u m.uT.length h.uc] 29)))
 have HM0:=hide (AB.new w 29 #[.slice h.s m.sT.length h.sc,.slice h.f m.fT.length h.fc,.slice h.r m.rT.length h.rc,.slice h.m m.mT.length h.mc,.slice h.l m.lT.length h.lc,.slice h.i m.iT.length h.ic,.int .i64 m.dT,.int .i64 m.oT,.int .i64 m.vT,.int .i64 m.aT,.slice h.u m.uT.length h.uc])
 have HK:=hide (BP h m (w.alloc (.cells #[.slice h.s m.sT.length h.sc,.slice h.f m.fT.length h.fc,.slice h.r m.rT.length h.rc,.slice h.m m.mT.length h.mc,.slice h.l m.lT.length h.lc,.slice h.i m.iT.length h.ic,.int .i64 m.dT,.int .i64 m.oT,.int .i64 m.vT,.int .i64 m.aT,.slice h.u m.uT.length h.uc] 29)) l0 l1 l2 l3)
 have HL:=hide (fun(w:World) (r:Nat) (hg:w.heap[r]? = some (.map (sk m) 4))=>Ak (b:=true) (v:=.agg #[.int .i64 m.rT.length,.func (.func 126) #[] #[]]) Tryz.underlying119 Tryz.underlying3 (BQ w) hg (IK m) rfl)
 obtain⟨b,off,hA,hb0,x0,x1,x2,hz⟩:=d.dM.mach ha
 have HA:=hide hA
 rw[hA] at HB HK HM0 ⊢
 have hx:AP ((a:Int)+1) m.mT.length=true:=by simp[AP];omega
 have haI:(a:Int)<(m.mT.length:Int):=by omega
 have hb1:b<w.heap.size:=hb0
 have HV:=hide (Gz (by_:=2) ha (by decide) hr)
 clear d hA hb0 x2 hz x0
 go_enter Tryz.func31,Tryz.ntmps31
 go_wp2_with (first
  | (go_at_call 72;refine HK.out.mono ?_;rintro e w1 ⟨r,rfl,hm,hb⟩;have hlk:=HL.out w1 r hm;have HB1:=hide (HB.out.trans (hb.mono HB.out.size));have hM1:=HM0.out.below hb (by simp);rw[← HA.out] at hM1;obtain⟨a0,a1,a2,a3,a4,a5,a6,a7,a8,a9,a10⟩:=MB.cells hM1;have al:=hM1.lt;rw[HA.out] at a3;have y1:=((HB1.out.cell (p:=⟨b,off+a*3+1,none⟩) hb1)).trans x1;have hbl:=Nat.lt_of_lt_of_le hb1 HB1.out.size;clear hM1 hm hb)
  | (go_at_call 73;refine(Aq _ _ _).mono ?_;rintro e w2 ⟨rfl,rfl⟩))
 go_ret
 exact⟨by rw[HV.out];rfl,(HB1.out.alloc HB1.out.size _).alloc (by have:=HB1.out.size;simp;omega) _⟩
theorem Kl (h:MH) (m:AC) (mc:Int) (w:World) (l0:m.mT.length≤9223372036854775807) (l1:m.rT.length≤9223372036854775807) (l2:m.fT.length≤9223372036854775807) (l3:m.sT.length≤9223372036854775807) (hx:AP mc m.mT.length=false) :
    Calls Tryz.prog 31 #[.agg #[.slice h.s m.sT.length h.sc,.slice h.f m.fT.length h.fc,.slice h.r m.rT.length h.rc,.slice h.m m.mT.length h.mc,.slice h.l m.lT.length h.lc,.slice h.i m.iT.length h.ic,.int .i64 m.dT,.int .i64 m.oT,.int .i64 m.vT,.int .i64 m.aT,.slice h.u m.uT.length h.uc],.int .i64 3,.int .i64 mc] w (EC m 3 mc w):=by
 have HB:=hide (((Below.refl w.heap.size w).alloc (Nat.le_refl _) (.cells #[.slice h.s m.sT.length h.sc,.slice h.f m.fT.length h.fc,.slice h.r m.rT.length h.rc,.slice h.m m.mT.length h.mc,.slice h.l m.lT.length h.lc,.slice h.i m.iT.length h.ic,.int .i64 m.dT,.int .i64 m.oT,.int .i64 m.vT,.int .i64 m.aT,.slice h.u m.uT.length h.uc] 29)))
 have HM0:=hide (AB.new w 29 #[.slice h.s m.sT.length h.sc,.slice h.f m.fT.length h.fc,.slice h.r m.rT.length h.rc,.slice h.m m.mT.length h.mc,.slice h.l m.lT.length h.lc,.slice h.i m.iT.length h.ic,.int .i64 m.dT,.int .i64 m.oT,.int .i64 m.vT,.int .i64 m.aT,.slice h.u m.uT.length h.uc])
 have HK:=hide (BP h m (w.alloc (.cells #[.slice h.s m.sT.length h.sc,.slice h.f m.fT.length h.fc,.slice h.r m.rT.length h.rc,.slice h.m m.mT.length h.mc,.slice h.l m.lT.length h.lc,.slice h.i m.iT.length h.ic,.int .i64 m.dT,.int .i64 m.oT,.int .i64 m.vT,.int .i64 m.aT,.slice h.u m.uT.length h.uc] 29)) l0 l1 l2 l3)
 have HL:=hide (fun(w:World) (r:Nat) (hg:w.heap[r]? = some (.map (sk m) 4))=>Ak (b:=true) (v:=.agg #[.int .i64 m.fT.length,.func (.func 127) #[] #[]]) Tryz.underlying119 Tryz.underlying3 (BQ w) hg (GQ m) rfl)
 have HV:=hide (FO (m:=m) (by_:=3) hx)
 go_enter Tryz.func31,Tryz.ntmps31
 go_wp2_with (first
  | (go_at_call 72;refine HK.out.mono ?_;rintro e w1 ⟨r,rfl,hm,hb⟩;have hlk:=HL.out w1 r hm;have HB1:=hide (HB.out.trans (hb.mono HB.out.size));have hM1:=HM0.out.below hb (by simp);obtain⟨a0,a1,a2,a3,a4,a5,a6,a7,a8,a9,a10⟩:=MB.cells hM1;have al:=hM1.lt;clear hM1 hm hb)
  | (go_at_call 73;refine(Aq _ _ _).mono ?_;rintro e w2 ⟨rfl,rfl⟩))
 go_ret
 exact⟨by rw[HV.out];rfl,HB1.out.alloc HB1.out.size _⟩
theorem M7 (mc rk:Int) (x:CQ) (w:World):Calls Tryz.prog 127 #[.int .i64 mc,.agg #[.string x.name,.int .i64 x.site,.int .i64 x.feed],.int .i64 rk] w (fun e w'=>e=.returned (.int .i64 x.feed)∧Below w.heap.size w w'):=by
 have HB:=hide ((Below.refl w.heap.size w).alloc (Nat.le_refl _) (.cells #[.string x.name,.int .i64 x.site,.int .i64 x.feed] 44))
 go_enter Tryz.func127,Tryz.ntmps127
 go_wp2_with fail
 go_ret
 exact⟨rfl,HB.out⟩
theorem Km (h:MH) (m:AC) (a:Nat) (w:World) (d:MD w w.heap.size h m) (ha:a<m.mT.length) (hr:AP m.mT[a].rack m.rT.length=false) :
    Calls Tryz.prog 31 #[.agg #[.slice h.s m.sT.length h.sc,.slice h.f m.fT.length h.fc,.slice h.r m.rT.length h.rc,.slice h.m m.mT.length h.mc,.slice h.l m.lT.length h.lc,.slice h.i m.iT.length h.ic,.int .i64 m.dT,.int .i64 m.oT,.int .i64 m.vT,.int .i64 m.aT,.slice h.u m.uT.length h.uc],.int .i64 3,.int .i64 ((a:Int)+1)] w (EC m 3 ((a:Int)+1) w):=by
 have l0:=d.ml
 have l1:=d.rl
 have l2:=d.fl
 have l3:=d.sl
 have HB:=hide (((Below.refl w.heap.size w).alloc (Nat.le_refl _) (.cells #[.slice h.s m.sT.length h.sc,.slice h.f m.fT.length h.fc,.slice h.r m.rT.length h.rc,.slice h.m m.mT.length h.mc,.slice h.l m.lT.length h.lc,.slice h.i m.iT.length h.ic,.int .i64 m.dT,.int .i64 m.oT,.int .i64 m.vT,.int .i64 m.aT,.slice h.u m.uT.length h.uc] 29)))
 have HM0:=hide (AB.new w 29 #[.slice h.s m.sT.length h.sc,.slice h.f m.fT.length h.fc,.slice h.r m.rT.length h.rc,.slice h.m m.mT.length h.mc,.slice h.l m.lT.length h.lc,.slice h.i m.iT.length h.ic,.int .i64 m.dT,.int .i64 m.oT,.int .i64 m.vT,.int .i64 m.aT,.slice h.u m.uT.length h.uc])
 have HK:=hide (BP h m (w.alloc (.cells #[.slice h.s m.sT.length h.sc,.slice h.f m.fT.length h.fc,.slice h.r m.rT.length h.rc,.slice h.m m.mT.length h.mc,.slice h.l m.lT.length h.lc,.slice h.i m.iT.length h.ic,.int .i64 m.dT,.int .i64 m.oT,.int .i64 m.vT,.int .i64 m.aT,.slice h.u m.uT.length h.uc] 29)) l0 l1 l2 l3)
 have HL:=hide (fun(w:World) (r:Nat) (hg:w.heap[r]? = some (.map (sk m) 4))=>Ak (b:=true) (v:=.agg #[.int .i64 m.fT.length,.func (.func 127) #[] #[]]) Tryz.underlying119 Tryz.underlying3 (BQ w) hg (GQ m) rfl)
 obtain⟨b,off,hA,hb0,x0,x1,x2,hz⟩:=d.dM.mach ha
 have HA:=hide hA
 rw[hA] at HB HK HM0 ⊢
 have hx:AP ((a:Int)+1) m.mT.length=true:=by simp[AP];omega
 have haI:(a:Int)<(m.mT.length:Int):=by omega
 have hb1:b<w.heap.size:=hb0
 have HV:=hide (Gz (by_:=3) ha (by decide) hr)
 clear d hA hb0 x2 hz x0
 go_enter Tryz.func31,Tryz.ntmps31
 go_wp2_with (first
  | (go_at_call 72;refine HK.out.mono ?_;rintro e w1 ⟨r,rfl,hm,hb⟩;have hlk:=HL.out w1 r hm;have HB1:=hide (HB.out.trans (hb.mono HB.out.size));have hM1:=HM0.out.below hb (by simp);rw[← HA.out] at hM1;obtain⟨a0,a1,a2,a3,a4,a5,a6,a7,a8,a9,a10⟩:=MB.cells hM1;have al:=hM1.lt;rw[HA.out] at a3;have y1:=((HB1.out.cell (p:=⟨b,off+a*3+1,none⟩) hb1)).trans x1;have hbl:=Nat.lt_of_lt_of_le hb1 HB1.out.size;clear hM1 hm hb)
  | (go_at_call 73;refine(Aq _ _ _).mono ?_;rintro e w2 ⟨rfl,rfl⟩))
 go_ret
 exact⟨by rw[HV.out];rfl,(HB1.out.alloc HB1.out.size _).alloc (by have:=HB1.out.size;simp;omega) _⟩
theorem Kn (h:MH) (m:AC) (mc:Int) (w:World) (l0:m.mT.length≤9223372036854775807) (l1:m.rT.length≤9223372036854775807) (l2:m.fT.length≤9223372036854775807) (l3:m.sT.length≤9223372036854775807) (hx:AP mc m.mT.length=false) :
    Calls Tryz.prog 31 #[.agg #[.slice h.s m.sT.length h.sc,.slice h.f m.fT.length h.fc,.slice h.r m.rT.length h.rc,.slice h.m m.mT.length h.mc,.slice h.l m.lT.length h.lc,.slice h.i m.iT.length h.ic,.int .i64 m.dT,.int .i64 m.oT,.int .i64 m.vT,.int .i64 m.aT,.slice h.u m.uT.length h.uc],.int .i64 4,.int .i64 mc] w (EC m 4 mc w):=by
 have HB:=hide (((Below.refl w.heap.size w).alloc (Nat.le_refl _) (.cells #[.slice h.s m.sT.length h.sc,.slice h.f m.fT.length h.fc,.slice h.r m.rT.length h.rc,.slice h.m m.mT.length h.mc,.slice h.l m.lT.length h.lc,.slice h.i m.iT.length h.ic,.int .i64 m.dT,.int .i64 m.oT,.int .i64 m.vT,.int .i64 m.aT,.slice h.u m.uT.length h.uc] 29)))
 have HM0:=hide (AB.new w 29 #[.slice h.s m.sT.length h.sc,.slice h.f m.fT.length h.fc,.slice h.r m.rT.length h.rc,.slice h.m m.mT.length h.mc,.slice h.l m.lT.length h.lc,.slice h.i m.iT.length h.ic,.int .i64 m.dT,.int .i64 m.oT,.int .i64 m.vT,.int .i64 m.aT,.slice h.u m.uT.length h.uc])
 have HK:=hide (BP h m (w.alloc (.cells #[.slice h.s m.sT.length h.sc,.slice h.f m.fT.length h.fc,.slice h.r m.rT.length h.rc,.slice h.m m.mT.length h.mc,.slice h.l m.lT.length h.lc,.slice h.i m.iT.length h.ic,.int .i64 m.dT,.int .i64 m.oT,.int .i64 m.vT,.int .i64 m.aT,.slice h.u m.uT.length h.uc] 29)) l0 l1 l2 l3)
 have HL:=hide (fun(w:World) (r:Nat) (hg:w.heap[r]? = some (.map (sk m) 4))=>Ak (b:=true) (v:=.agg #[.int .i64 m.sT.length,.func (.func 128) #[] #[]]) Tryz.underlying119 Tryz.underlying3 (BQ w) hg (GR m) rfl)
 have HV:=hide (FO (m:=m) (by_:=4) hx)
 go_enter Tryz.func31,Tryz.ntmps31
 go_wp2_with (first
  | (go_at_call 72;refine HK.out.mono ?_;rintro e w1 ⟨r,rfl,hm,hb⟩;have hlk:=HL.out w1 r hm;have HB1:=hide (HB.out.trans (hb.mono HB.out.size));have hM1:=HM0.out.below hb (by simp);obtain⟨a0,a1,a2,a3,a4,a5,a6,a7,a8,a9,a10⟩:=MB.cells hM1;have al:=hM1.lt;clear hM1 hm hb)
  | (go_at_call 73;refine(Aq _ _ _).mono ?_;rintro e w2 ⟨rfl,rfl⟩))
 go_ret
 exact⟨by rw[HV.out];rfl,HB1.out.alloc HB1.out.size _⟩
theorem M8 (mc rk:Int) (x:CQ) (w:World):Calls Tryz.prog 128 #[.int .i64 mc,.agg #[.string x.name,.int .i64 x.site,.int .i64 x.feed],.int .i64 rk] w (fun e w'=>e=.returned (.int .i64 x.site)∧Below w.heap.size w w'):=by
 have HB:=hide ((Below.refl w.heap.size w).alloc (Nat.le_refl _) (.cells #[.string x.name,.int .i64 x.site,.int .i64 x.feed] 44))
 go_enter Tryz.func128,Tryz.ntmps128
 go_wp2_with fail
 go_ret
 exact⟨rfl,HB.out⟩
theorem Ko (h:MH) (m:AC) (a:Nat) (w:World) (d:MD w w.heap.size h m) (ha:a<m.mT.length) (hr:AP m.mT[a].rack m.rT.length=false) :
    Calls Tryz.prog 31 #[.agg #[.slice h.s m.sT.length h.sc,.slice h.f m.fT.length h.fc,.slice h.r m.rT.length h.rc,.slice h.m m.mT.length h.mc,.slice h.l m.lT.length h.lc,.slice h.i m.iT.length h.ic,.int .i64 m.dT,.int .i64 m.oT,.int .i64 m.vT,.int .i64 m.aT,.slice h.u m.uT.length h.uc],.int .i64 4,.int .i64 ((a:Int)+1)] w (EC m 4 ((a:Int)+1) w):=by
 have l0:=d.ml
 have l1:=d.rl
 have l2:=d.fl
 have l3:=d.sl
 have HB:=hide (((Below.refl w.heap.size w).alloc (Nat.le_refl _) (.cells #[.slice h.s m.sT.length h.sc,.slice h.f m.fT.length h.fc,.slice h.r m.rT.length h.rc,.slice h.m m.mT.length h.mc,.slice h.l m.lT.length h.lc,.slice h.i m.iT.length h.ic,.int .i64 m.dT,.int .i64 m.oT,.int .i64 m.vT,.int .i64 m.aT,.slice h.u m.uT.length h.uc] 29)))
 have HM0:=hide (AB.new w 29 #[.slice h.s m.sT.length h.sc,.slice h.f m.fT.length h.fc,.slice h.r m.rT.length h.rc,.slice h.m m.mT.length h.mc,.slice h.l m.lT.length h.lc,.slice h.i m.iT.length h.ic,.int .i64 m.dT,.int .i64 m.oT,.int .i64 m.vT,.int .i64 m.aT,.slice h.u m.uT.length h.uc])
 have HK:=hide (BP h m (w.alloc (.cells #[.slice h.s m.sT.length h.sc,.slice h.f m.fT.length h.fc,.slice h.r m.rT.length h.rc,.slice h.m m.mT.length h.mc,.slice h.l m.lT.length h.lc,.slice h.i m.iT.length h.ic,.int .i64 m.dT,.int .i64 m.oT,.int .i64 m.vT,.int .i64 m.aT,.slice h.u m.uT.length h.uc] 29)) l0 l1 l2 l3)
 have HL:=hide (fun(w:World) (r:Nat) (hg:w.heap[r]? = some (.map (sk m) 4))=>Ak (b:=true) (v:=.agg #[.int .i64 m.sT.length,.func (.func 128) #[] #[]]) Tryz.underlying119 Tryz.underlying3 (BQ w) hg (GR m) rfl)
 obtain⟨b,off,hA,hb0,x0,x1,x2,hz⟩:=d.dM.mach ha
 have HA:=hide hA
 rw[hA] at HB HK HM0 ⊢
 have hx:AP ((a:Int)+1) m.mT.length=true:=by simp[AP];omega
 have haI:(a:Int)<(m.mT.length:Int):=by omega
 have hb1:b<w.heap.size:=hb0
 have HV:=hide (Gz (by_:=4) ha (by decide) hr)
 clear d hA hb0 x2 hz x0
 go_enter Tryz.func31,Tryz.ntmps31
 go_wp2_with (first
  | (go_at_call 72;refine HK.out.mono ?_;rintro e w1 ⟨r,rfl,hm,hb⟩;have hlk:=HL.out w1 r hm;have HB1:=hide (HB.out.trans (hb.mono HB.out.size));have hM1:=HM0.out.below hb (by simp);rw[← HA.out] at hM1;obtain⟨a0,a1,a2,a3,a4,a5,a6,a7,a8,a9,a10⟩:=MB.cells hM1;have al:=hM1.lt;rw[HA.out] at a3;have y1:=((HB1.out.cell (p:=⟨b,off+a*3+1,none⟩) hb1)).trans x1;have hbl:=Nat.lt_of_lt_of_le hb1 HB1.out.size;clear hM1 hm hb)
  | (go_at_call 73;refine(Aq _ _ _).mono ?_;rintro e w2 ⟨rfl,rfl⟩))
 go_ret
 exact⟨by rw[HV.out];rfl,(HB1.out.alloc HB1.out.size _).alloc (by have:=HB1.out.size;simp;omega) _⟩
theorem FB {m:AC} {by_:Int} {a rk:Nat} (ha:a<m.mT.length) (hrk:rk<m.rT.length) (e:m.mT[a].rack=(rk:Int)+1):Es m by_ ((a:Int)+1)=if by_=1 then(a:Int)+1 else if by_=3 then m.rT[rk].feed else if by_=4 then m.rT[rk].site else(rk:Int)+1:=by
 have hr:AP ((rk:Int)+1) m.rT.length=true:=by simp[AP];omega
 unfold Es
 split
 · rfl
 · simp[ha,e,hr,hrk]
theorem GI {m:AC} {by_:Int} {a:Nat} (ha:a<m.mT.length) {n:Int} (hn:Es m by_ ((a:Int)+1)=n) (h:AP n (AZ m by_)=true):BN m by_ ((a:Int)+1)=n:=by
 have:AP ((a:Int)+1) m.mT.length=true:=by simp[AP];omega
 simp[BN,hn,h,this]
theorem Mh {m:AC} {by_:Int} {a:Nat} {n:Int} (hn:Es m by_ ((a:Int)+1)=n) (h:AP n (AZ m by_)=false):BN m by_ ((a:Int)+1)=0:=by
 simp[BN,hn,h]
theorem Nj (h:MH) (m:AC) (a rk:Nat) (w:World) (d:MD w w.heap.size h m) (ha:a<m.mT.length) (hrk:rk<m.rT.length) (er:m.mT[a].rack=(rk:Int)+1) (hn:AP ((a:Int)+1) m.mT.length=true) :
    Calls Tryz.prog 31 #[.agg #[.slice h.s m.sT.length h.sc,.slice h.f m.fT.length h.fc,.slice h.r m.rT.length h.rc,.slice h.m m.mT.length h.mc,.slice h.l m.lT.length h.lc,.slice h.i m.iT.length h.ic,.int .i64 m.dT,.int .i64 m.oT,.int .i64 m.vT,.int .i64 m.aT,.slice h.u m.uT.length h.uc],.int .i64 1,.int .i64 ((a:Int)+1)] w (EC m 1 ((a:Int)+1) w):=by
 have l0:=d.ml
 have l1:=d.rl
 have l2:=d.fl
 have l3:=d.sl
 have HB:=hide (((Below.refl w.heap.size w).alloc (Nat.le_refl _) (.cells #[.slice h.s m.sT.length h.sc,.slice h.f m.fT.length h.fc,.slice h.r m.rT.length h.rc,.slice h.m m.mT.length h.mc,.slice h.l m.lT.length h.lc,.slice h.i m.iT.length h.ic,.int .i64 m.dT,.int .i64 m.oT,.int .i64 m.vT,.int .i64 m.aT,.slice h.u m.uT.length h.uc] 29)))
 have HM0:=hide (AB.new w 29 #[.slice h.s m.sT.length h.sc,.slice h.f m.fT.length h.fc,.slice h.r m.rT.length h.rc,.slice h.m m.mT.length h.mc,.slice h.l m.lT.length h.lc,.slice h.i m.iT.length h.ic,.int .i64 m.dT,.int .i64 m.oT,.int .i64 m.vT,.int .i64 m.aT,.slice h.u m.uT.length h.uc])
 have HK:=hide (BP h m (w.alloc (.cells #[.slice h.s m.sT.length h.sc,.slice h.f m.fT.length h.fc,.slice h.r m.rT.length h.rc,.slice h.m m.mT.length h.mc,.slice h.l m.lT.length h.lc,.slice h.i m.iT.length h.ic,.int .i64 m.dT,.int .i64 m.oT,.int .i64 m.vT,.int .i64 m.aT,.slice h.u m.uT.length h.uc] 29)) l0 l1 l2 l3)
 have HL:=hide (fun(w:World) (r:Nat) (hg:w.heap[r]? = some (.map (sk m) 4))=>Ak (b:=true) (v:=.agg #[.int .i64 m.mT.length,.func (.func 125) #[] #[]]) Tryz.underlying119 Tryz.underlying3 (BQ w) hg (IJ m) rfl)
 obtain⟨b,off,hA,hb0,x0,x1,x2,hz⟩:=d.dM.mach ha
 obtain⟨b2,off2,hA2,hb2,z0,z1,z2,_⟩:=d.dR.rack hrk
 obtain⟨x,hx2⟩:∃ x,m.rT[rk]=x:=⟨_,rfl⟩
 rw[hx2] at z0 z1 z2
 have HN:=FB (by_:=1) ha hrk er
 rw[hx2] at HN
 have HA:=hide hA
 have HA2:=hide hA2
 rw[hA,hA2] at HB HK HM0 ⊢
 rw[er] at x1
 have hx:AP ((a:Int)+1) m.mT.length=true:=by simp[AP];omega
 have hxr:AP ((rk:Int)+1) m.rT.length=true:=by simp[AP];omega
 have haI:(a:Int)<(m.mT.length:Int):=by omega
 have hrI:(rk:Int)<(m.rT.length:Int):=by omega
 have hb1:b<w.heap.size:=hb0
 have HO:=hide (fun w=>M6 ((a:Int)+1) ((rk:Int)+1) x w)
 have HV:=hide (GI ha HN hn)
 clear d hA hA2 hb0 x2 hz x0 HN
 go_enter Tryz.func31,Tryz.ntmps31
 go_wp2_with (first
  | (go_at_call 72;refine HK.out.mono ?_;rintro e w1 ⟨r,rfl,hm,hb⟩;have hlk:=HL.out w1 r hm;have HB1:=hide (HB.out.trans (hb.mono HB.out.size));have hM1:=HM0.out.below hb (by simp);rw[← HA.out,← HA2.out] at hM1;obtain⟨a0,a1,a2,a3,a4,a5,a6,a7,a8,a9,a10⟩:=MB.cells hM1;have al:=hM1.lt;rw[HA.out] at a3;rw[HA2.out] at a2
     have y1:=((HB1.out.cell (p:=⟨b,off+a*3+1,none⟩) hb1)).trans x1;have v0:=((HB1.out.cell (p:=⟨b2,off2+rk*3,none⟩) hb2)).trans z0;have v1:=((HB1.out.cell (p:=⟨b2,off2+rk*3+1,none⟩) hb2)).trans z1;have v2:=((HB1.out.cell (p:=⟨b2,off2+rk*3+2,none⟩) hb2)).trans z2
     have hbl:=Nat.lt_of_lt_of_le hb1 HB1.out.size;have hbl2:=Nat.lt_of_lt_of_le hb2 HB1.out.size;clear hM1 hm hb)
  | (go_at_call 73;refine(Aq _ _ _).mono ?_;rintro e w2 ⟨rfl,rfl⟩)
  | (refine(HO.out _).mono ?_;rintro e w3 ⟨rfl,hb3⟩;have HB3:=hide hb3;have q0:=(hb3.cell (p:=⟨w1.heap.size,0,none⟩) (by simp;omega));have q1:=(hb3.cell (p:=⟨w1.heap.size,1,none⟩) (by simp;omega));simp at q0 q1;clear hb3))
 go_ret
 exact⟨by rw[HV.out];rfl,(((HB1.out.alloc HB1.out.size _).alloc (by have:=HB1.out.size;simp;omega) _).trans (HB3.out.mono (by have:=HB1.out.size;simp;omega)))⟩
theorem Nk (h:MH) (m:AC) (a rk:Nat) (w:World) (d:MD w w.heap.size h m) (ha:a<m.mT.length) (hrk:rk<m.rT.length) (er:m.mT[a].rack=(rk:Int)+1) (hn:AP ((rk:Int)+1) m.rT.length=true) :
    Calls Tryz.prog 31 #[.agg #[.slice h.s m.sT.length h.sc,.slice h.f m.fT.length h.fc,.slice h.r m.rT.length h.rc,.slice h.m m.mT.length h.mc,.slice h.l m.lT.length h.lc,.slice h.i m.iT.length h.ic,.int .i64 m.dT,.int .i64 m.oT,.int .i64 m.vT,.int .i64 m.aT,.slice h.u m.uT.length h.uc],.int .i64 2,.int .i64 ((a:Int)+1)] w (EC m 2 ((a:Int)+1) w):=by
 have l0:=d.ml
 have l1:=d.rl
 have l2:=d.fl
 have l3:=d.sl
 have HB:=hide (((Below.refl w.heap.size w).alloc (Nat.le_refl _) (.cells #[.slice h.s m.sT.length h.sc,.slice h.f m.fT.length h.fc,.slice h.r m.rT.length h.rc,.slice h.m m.mT.length h.mc,.slice h.l m.lT.length h.lc,.slice h.i m.iT.length h.ic,.int .i64 m.dT,.int .i64 m.oT,.int .i64 m.vT,.int .i64 m.aT,.slice h.u m.uT.length h.uc] 29)))
 have HM0:=hide (AB.new w 29 #[.slice h.s m.sT.length h.sc,.slice h.f m.fT.length h.fc,.slice h.r m.rT.length h.rc,.slice h.m m.mT.length h.mc,.slice h.l m.lT.length h.lc,.slice h.i m.iT.length h.ic,.int .i64 m.dT,.int .i64 m.oT,.int .i64 m.vT,.int .i64 m.aT,.slice h.u m.uT.length h.uc])
 have HK:=hide (BP h m (w.alloc (.cells #[.slice h.s m.sT.length h.sc,.slice h.f m.fT.length h.fc,.slice h.r m.rT.length h.rc,.slice h.m m.mT.length h.mc,.slice h.l m.lT.length h.lc,.slice h.i m.iT.length h.ic,.int .i64 m.dT,.int .i64 m.oT,.int .i64 m.vT,.int .i64 m.aT,.slice h.u m.uT.length h.uc] 29)) l0 l1 l2 l3)
 have HL:=hide (fun(w:World) (r:Nat) (hg:w.heap[r]? = some (.map (sk m) 4))=>Ak (b:=true) (v:=.agg #[.int .i64 m.rT.length,.func (.func 126) #[] #[]]) Tryz.underlying119 Tryz.underlying3 (BQ w) hg (IK m) rfl)
 obtain⟨b,off,hA,hb0,x0,x1,x2,hz⟩:=d.dM.mach ha
 obtain⟨b2,off2,hA2,hb2,z0,z1,z2,_⟩:=d.dR.rack hrk
 obtain⟨x,hx2⟩:∃ x,m.rT[rk]=x:=⟨_,rfl⟩
 rw[hx2] at z0 z1 z2
 have HN:=FB (by_:=2) ha hrk er
 rw[hx2] at HN
 have HA:=hide hA
 have HA2:=hide hA2
 rw[hA,hA2] at HB HK HM0 ⊢
 rw[er] at x1
 have hx:AP ((a:Int)+1) m.mT.length=true:=by simp[AP];omega
 have hxr:AP ((rk:Int)+1) m.rT.length=true:=by simp[AP];omega
 have haI:(a:Int)<(m.mT.length:Int):=by omega
 have hrI:(rk:Int)<(m.rT.length:Int):=by omega
 have hb1:b<w.heap.size:=hb0
 have HO:=hide (fun w=>R7 ((a:Int)+1) ((rk:Int)+1) x w)
 have HV:=hide (GI ha HN hn)
 clear d hA hA2 hb0 x2 hz x0 HN
 go_enter Tryz.func31,Tryz.ntmps31
 go_wp2_with (first
  | (go_at_call 72;refine HK.out.mono ?_;rintro e w1 ⟨r,rfl,hm,hb⟩;have hlk:=HL.out w1 r hm;have HB1:=hide (HB.out.trans (hb.mono HB.out.size));have hM1:=HM0.out.below hb (by simp);rw[← HA.out,← HA2.out] at hM1;obtain⟨a0,a1,a2,a3,a4,a5,a6,a7,a8,a9,a10⟩:=MB.cells hM1;have al:=hM1.lt;rw[HA.out] at a3;rw[HA2.out] at a2
     have y1:=((HB1.out.cell (p:=⟨b,off+a*3+1,none⟩) hb1)).trans x1;have v0:=((HB1.out.cell (p:=⟨b2,off2+rk*3,none⟩) hb2)).trans z0;have v1:=((HB1.out.cell (p:=⟨b2,off2+rk*3+1,none⟩) hb2)).trans z1;have v2:=((HB1.out.cell (p:=⟨b2,off2+rk*3+2,none⟩) hb2)).trans z2
     have hbl:=Nat.lt_of_lt_of_le hb1 HB1.out.size;have hbl2:=Nat.lt_of_lt_of_le hb2 HB1.out.size;clear hM1 hm hb)
  | (go_at_call 73;refine(Aq _ _ _).mono ?_;rintro e w2 ⟨rfl,rfl⟩)
  | (refine(HO.out _).mono ?_;rintro e w3 ⟨rfl,hb3⟩;have HB3:=hide hb3;have q0:=(hb3.cell (p:=⟨w1.heap.size,0,none⟩) (by simp;omega));have q1:=(hb3.cell (p:=⟨w1.heap.size,1,none⟩) (by simp;omega));simp at q0 q1;clear hb3))
 go_ret
 exact⟨by rw[HV.out];rfl,(((HB1.out.alloc HB1.out.size _).alloc (by have:=HB1.out.size;simp;omega) _).trans (HB3.out.mono (by have:=HB1.out.size;simp;omega)))⟩
theorem Nn (h:MH) (m:AC) (a rk:Nat) (w:World) (d:MD w w.heap.size h m) (ha:a<m.mT.length) (hrk:rk<m.rT.length) (er:m.mT[a].rack=(rk:Int)+1) (hn:AP m.rT[rk].feed m.fT.length=true) :
    Calls Tryz.prog 31 #[.agg #[.slice h.s m.sT.length h.sc,.slice h.f m.fT.length h.fc,.slice h.r m.rT.length h.rc,.slice h.m m.mT.length h.mc,.slice h.l m.lT.length h.lc,.slice h.i m.iT.length h.ic,.int .i64 m.dT,.int .i64 m.oT,.int .i64 m.vT,.int .i64 m.aT,.slice h.u m.uT.length h.uc],.int .i64 3,.int .i64 ((a:Int)+1)] w (EC m 3 ((a:Int)+1) w):=by
 have l0:=d.ml
 have l1:=d.rl
 have l2:=d.fl
 have l3:=d.sl
 have HB:=hide (((Below.refl w.heap.size w).alloc (Nat.le_refl _) (.cells #[.slice h.s m.sT.length h.sc,.slice h.f m.fT.length h.fc,.slice h.r m.rT.length h.rc,.slice h.m m.mT.length h.mc,.slice h.l m.lT.length h.lc,.slice h.i m.iT.length h.ic,.int .i64 m.dT,.int .i64 m.oT,.int .i64 m.vT,.int .i64 m.aT,.slice h.u m.uT.length h.uc] 29)))
 have HM0:=hide (AB.new w 29 #[.slice h.s m.sT.length h.sc,.slice h.f m.fT.length h.fc,.slice h.r m.rT.length h.rc,.slice h.m m.mT.length h.mc,.slice h.l m.lT.length h.lc,.slice h.i m.iT.length h.ic,.int .i64 m.dT,.int .i64 m.oT,.int .i64 m.vT,.int .i64 m.aT,.slice h.u m.uT.length h.uc])
 have HK:=hide (BP h m (w.alloc (.cells #[.slice h.s m.sT.length h.sc,.slice h.f m.fT.length h.fc,.slice h.r m.rT.length h.rc,.slice h.m m.mT.length h.mc,.slice h.l m.lT.length h.lc,.slice h.i m.iT.length h.ic,.int .i64 m.dT,.int .i64 m.oT,.int .i64 m.vT,.int .i64 m.aT,.slice h.u m.uT.length h.uc] 29)) l0 l1 l2 l3)
 have HL:=hide (fun(w:World) (r:Nat) (hg:w.heap[r]? = some (.map (sk m) 4))=>Ak (b:=true) (v:=.agg #[.int .i64 m.fT.length,.func (.func 127) #[] #[]]) Tryz.underlying119 Tryz.underlying3 (BQ w) hg (GQ m) rfl)
 obtain⟨b,off,hA,hb0,x0,x1,x2,hz⟩:=d.dM.mach ha
 obtain⟨b2,off2,hA2,hb2,z0,z1,z2,_⟩:=d.dR.rack hrk
 obtain⟨x,hx2⟩:∃ x,m.rT[rk]=x:=⟨_,rfl⟩
 rw[hx2] at z0 z1 z2
 have HN:=FB (by_:=3) ha hrk er
 rw[hx2] at HN
 have HA:=hide hA
 have HA2:=hide hA2
 rw[hA,hA2] at HB HK HM0 ⊢
 rw[er] at x1
 have hx:AP ((a:Int)+1) m.mT.length=true:=by simp[AP];omega
 have hxr:AP ((rk:Int)+1) m.rT.length=true:=by simp[AP];omega
 have haI:(a:Int)<(m.mT.length:Int):=by omega
 have hrI:(rk:Int)<(m.rT.length:Int):=by omega
 have hb1:b<w.heap.size:=hb0
 have HO:=hide (fun w=>M7 ((a:Int)+1) ((rk:Int)+1) x w)
 rw[hx2] at hn
 have HV:=hide (GI ha HN hn)
 clear d hA hA2 hb0 x2 hz x0 HN
 go_enter Tryz.func31,Tryz.ntmps31
 go_wp2_with (first
  | (go_at_call 72;refine HK.out.mono ?_;rintro e w1 ⟨r,rfl,hm,hb⟩;have hlk:=HL.out w1 r hm;have HB1:=hide (HB.out.trans (hb.mono HB.out.size));have hM1:=HM0.out.below hb (by simp);rw[← HA.out,← HA2.out] at hM1;obtain⟨a0,a1,a2,a3,a4,a5,a6,a7,a8,a9,a10⟩:=MB.cells hM1;have al:=hM1.lt;rw[HA.out] at a3;rw[HA2.out] at a2
     have y1:=((HB1.out.cell (p:=⟨b,off+a*3+1,none⟩) hb1)).trans x1;have v0:=((HB1.out.cell (p:=⟨b2,off2+rk*3,none⟩) hb2)).trans z0;have v1:=((HB1.out.cell (p:=⟨b2,off2+rk*3+1,none⟩) hb2)).trans z1;have v2:=((HB1.out.cell (p:=⟨b2,off2+rk*3+2,none⟩) hb2)).trans z2
     have hbl:=Nat.lt_of_lt_of_le hb1 HB1.out.size;have hbl2:=Nat.lt_of_lt_of_le hb2 HB1.out.size;clear hM1 hm hb)
  | (go_at_call 73;refine(Aq _ _ _).mono ?_;rintro e w2 ⟨rfl,rfl⟩)
  | (refine(HO.out _).mono ?_;rintro e w3 ⟨rfl,hb3⟩;have HB3:=hide hb3;have q0:=(hb3.cell (p:=⟨w1.heap.size,0,none⟩) (by simp;omega));have q1:=(hb3.cell (p:=⟨w1.heap.size,1,none⟩) (by simp;omega));simp at q0 q1;clear hb3))
 go_ret
 exact⟨by rw[HV.out];rfl,(((HB1.out.alloc HB1.out.size _).alloc (by have:=HB1.out.size;simp;omega) _).trans (HB3.out.mono (by have:=HB1.out.size;simp;omega)))⟩
theorem Nl (h:MH) (m:AC) (a rk:Nat) (w:World) (d:MD w w.heap.size h m) (ha:a<m.mT.length) (hrk:rk<m.rT.length) (er:m.mT[a].rack=(rk:Int)+1) (hn:AP m.rT[rk].feed m.fT.length=false) :
    Calls Tryz.prog 31 #[.agg #[.slice h.s m.sT.length h.sc,.slice h.f m.fT.length h.fc,.slice h.r m.rT.length h.rc,.slice h.m m.mT.length h.mc,.slice h.l m.lT.length h.lc,.slice h.i m.iT.length h.ic,.int .i64 m.dT,.int .i64 m.oT,.int .i64 m.vT,.int .i64 m.aT,.slice h.u m.uT.length h.uc],.int .i64 3,.int .i64 ((a:Int)+1)] w (EC m 3 ((a:Int)+1) w):=by
 have l0:=d.ml
 have l1:=d.rl
 have l2:=d.fl
 have l3:=d.sl
 have HB:=hide (((Below.refl w.heap.size w).alloc (Nat.le_refl _) (.cells #[.slice h.s m.sT.length h.sc,.slice h.f m.fT.length h.fc,.slice h.r m.rT.length h.rc,.slice h.m m.mT.length h.mc,.slice h.l m.lT.length h.lc,.slice h.i m.iT.length h.ic,.int .i64 m.dT,.int .i64 m.oT,.int .i64 m.vT,.int .i64 m.aT,.slice h.u m.uT.length h.uc] 29)))
 have HM0:=hide (AB.new w 29 #[.slice h.s m.sT.length h.sc,.slice h.f m.fT.length h.fc,.slice h.r m.rT.length h.rc,.slice h.m m.mT.length h.mc,.slice h.l m.lT.length h.lc,.slice h.i m.iT.length h.ic,.int .i64 m.dT,.int .i64 m.oT,.int .i64 m.vT,.int .i64 m.aT,.slice h.u m.uT.length h.uc])
 have HK:=hide (BP h m (w.alloc (.cells #[.slice h.s m.sT.length h.sc,.slice h.f m.fT.length h.fc,.slice h.r m.rT.length h.rc,.slice h.m m.mT.length h.mc,.slice h.l m.lT.length h.lc,.slice h.i m.iT.length h.ic,.int .i64 m.dT,.int .i64 m.oT,.int .i64 m.vT,.int .i64 m.aT,.slice h.u m.uT.length h.uc] 29)) l0 l1 l2 l3)
 have HL:=hide (fun(w:World) (r:Nat) (hg:w.heap[r]? = some (.map (sk m) 4))=>Ak (b:=true) (v:=.agg #[.int .i64 m.fT.length,.func (.func 127) #[] #[]]) Tryz.underlying119 Tryz.underlying3 (BQ w) hg (GQ m) rfl)
 obtain⟨b,off,hA,hb0,x0,x1,x2,hz⟩:=d.dM.mach ha
 obtain⟨b2,off2,hA2,hb2,z0,z1,z2,_⟩:=d.dR.rack hrk
 obtain⟨x,hx2⟩:∃ x,m.rT[rk]=x:=⟨_,rfl⟩
 rw[hx2] at z0 z1 z2
 have HN:=FB (by_:=3) ha hrk er
 rw[hx2] at HN
 have HA:=hide hA
 have HA2:=hide hA2
 rw[hA,hA2] at HB HK HM0 ⊢
 rw[er] at x1
 have hx:AP ((a:Int)+1) m.mT.length=true:=by simp[AP];omega
 have hxr:AP ((rk:Int)+1) m.rT.length=true:=by simp[AP];omega
 have haI:(a:Int)<(m.mT.length:Int):=by omega
 have hrI:(rk:Int)<(m.rT.length:Int):=by omega
 have hb1:b<w.heap.size:=hb0
 have HO:=hide (fun w=>M7 ((a:Int)+1) ((rk:Int)+1) x w)
 rw[hx2] at hn
 have HV:=hide (Mh HN hn)
 clear d hA hA2 hb0 x2 hz x0 HN
 go_enter Tryz.func31,Tryz.ntmps31
 go_wp2_with (first
  | (go_at_call 72;refine HK.out.mono ?_;rintro e w1 ⟨r,rfl,hm,hb⟩;have hlk:=HL.out w1 r hm;have HB1:=hide (HB.out.trans (hb.mono HB.out.size));have hM1:=HM0.out.below hb (by simp);rw[← HA.out,← HA2.out] at hM1;obtain⟨a0,a1,a2,a3,a4,a5,a6,a7,a8,a9,a10⟩:=MB.cells hM1;have al:=hM1.lt;rw[HA.out] at a3;rw[HA2.out] at a2
     have y1:=((HB1.out.cell (p:=⟨b,off+a*3+1,none⟩) hb1)).trans x1;have v0:=((HB1.out.cell (p:=⟨b2,off2+rk*3,none⟩) hb2)).trans z0;have v1:=((HB1.out.cell (p:=⟨b2,off2+rk*3+1,none⟩) hb2)).trans z1;have v2:=((HB1.out.cell (p:=⟨b2,off2+rk*3+2,none⟩) hb2)).trans z2
     have hbl:=Nat.lt_of_lt_of_le hb1 HB1.out.size;have hbl2:=Nat.lt_of_lt_of_le hb2 HB1.out.size;clear hM1 hm hb)
  | (go_at_call 73;refine(Aq _ _ _).mono ?_;rintro e w2 ⟨rfl,rfl⟩)
  | (refine(HO.out _).mono ?_;rintro e w3 ⟨rfl,hb3⟩;have HB3:=hide hb3;have q0:=(hb3.cell (p:=⟨w1.heap.size,0,none⟩) (by simp;omega));have q1:=(hb3.cell (p:=⟨w1.heap.size,1,none⟩) (by simp;omega));simp at q0 q1;clear hb3))
 go_ret
 exact⟨by rw[HV.out];rfl,(((HB1.out.alloc HB1.out.size _).alloc (by have:=HB1.out.size;simp;omega) _).trans (HB3.out.mono (by have:=HB1.out.size;simp;omega)))⟩
theorem Nq (h:MH) (m:AC) (a rk:Nat) (w:World) (d:MD w w.heap.size h m) (ha:a<m.mT.length) (hrk:rk<m.rT.length) (er:m.mT[a].rack=(rk:Int)+1) (hn:AP m.rT[rk].site m.sT.length=true) :
    Calls Tryz.prog 31 #[.agg #[.slice h.s m.sT.length h.sc,.slice h.f m.fT.length h.fc,.slice h.r m.rT.length h.rc,.slice h.m m.mT.length h.mc,.slice h.l m.lT.length h.lc,.slice h.i m.iT.length h.ic,.int .i64 m.dT,.int .i64 m.oT,.int .i64 m.vT,.int .i64 m.aT,.slice h.u m.uT.length h.uc],.int .i64 4,.int .i64 ((a:Int)+1)] w (EC m 4 ((a:Int)+1) w):=by
 have l0:=d.ml
 have l1:=d.rl
 have l2:=d.fl
 have l3:=d.sl
 have HB:=hide (((Below.refl w.heap.size w).alloc (Nat.le_refl _) (.cells #[.slice h.s m.sT.length h.sc,.slice h.f m.fT.length h.fc,.slice h.r m.rT.length h.rc,.slice h.m m.mT.length h.mc,.slice h.l m.lT.length h.lc,.slice h.i m.iT.length h.ic,.int .i64 m.dT,.int .i64 m.oT,.int .i64 m.vT,.int .i64 m.aT,.slice h.u m.uT.length h.uc] 29)))
 have HM0:=hide (AB.new w 29 #[.slice h.s m.sT.length h.sc,.slice h.f m.fT.length h.fc,.slice h.r m.rT.length h.rc,.slice h.m m.mT.length h.mc,.slice h.l m.lT.length h.lc,.slice h.i m.iT.length h.ic,.int .i64 m.dT,.int .i64 m.oT,.int .i64 m.vT,.int .i64 m.aT,.slice h.u m.uT.length h.uc])
 have HK:=hide (BP h m (w.alloc (.cells #[.slice h.s m.sT.length h.sc,.slice h.f m.fT.length h.fc,.slice h.r m.rT.length h.rc,.slice h.m m.mT.length h.mc,.slice h.l m.lT.length h.lc,.slice h.i m.iT.length h.ic,.int .i64 m.dT,.int .i64 m.oT,.int .i64 m.vT,.int .i64 m.aT,.slice h.u m.uT.length h.uc] 29)) l0 l1 l2 l3)
 have HL:=hide (fun(w:World) (r:Nat) (hg:w.heap[r]? = some (.map (sk m) 4))=>Ak (b:=true) (v:=.agg #[.int .i64 m.sT.length,.func (.func 128) #[] #[]]) Tryz.underlying119 Tryz.underlying3 (BQ w) hg (GR m) rfl)
 obtain⟨b,off,hA,hb0,x0,x1,x2,hz⟩:=d.dM.mach ha
 obtain⟨b2,off2,hA2,hb2,z0,z1,z2,_⟩:=d.dR.rack hrk
 obtain⟨x,hx2⟩:∃ x,m.rT[rk]=x:=⟨_,rfl⟩
 rw[hx2] at z0 z1 z2
 have HN:=FB (by_:=4) ha hrk er
 rw[hx2] at HN
 have HA:=hide hA
 have HA2:=hide hA2
 rw[hA,hA2] at HB HK HM0 ⊢
 rw[er] at x1
 have hx:AP ((a:Int)+1) m.mT.length=true:=by simp[AP];omega
 have hxr:AP ((rk:Int)+1) m.rT.length=true:=by simp[AP];omega
 have haI:(a:Int)<(m.mT.length:Int):=by omega
 have hrI:(rk:Int)<(m.rT.length:Int):=by omega
 have hb1:b<w.heap.size:=hb0
 have HO:=hide (fun w=>M8 ((a:Int)+1) ((rk:Int)+1) x w)
 rw[hx2] at hn
 have HV:=hide (GI ha HN hn)
 clear d hA hA2 hb0 x2 hz x0 HN
 go_enter Tryz.func31,Tryz.ntmps31
 go_wp2_with (first
  | (go_at_call 72;refine HK.out.mono ?_;rintro e w1 ⟨r,rfl,hm,hb⟩;have hlk:=HL.out w1 r hm;have HB1:=hide (HB.out.trans (hb.mono HB.out.size));have hM1:=HM0.out.below hb (by simp);rw[← HA.out,← HA2.out] at hM1;obtain⟨a0,a1,a2,a3,a4,a5,a6,a7,a8,a9,a10⟩:=MB.cells hM1;have al:=hM1.lt;rw[HA.out] at a3;rw[HA2.out] at a2
     have y1:=((HB1.out.cell (p:=⟨b,off+a*3+1,none⟩) hb1)).trans x1;have v0:=((HB1.out.cell (p:=⟨b2,off2+rk*3,none⟩) hb2)).trans z0;have v1:=((HB1.out.cell (p:=⟨b2,off2+rk*3+1,none⟩) hb2)).trans z1;have v2:=((HB1.out.cell (p:=⟨b2,off2+rk*3+2,none⟩) hb2)).trans z2
     have hbl:=Nat.lt_of_lt_of_le hb1 HB1.out.size;have hbl2:=Nat.lt_of_lt_of_le hb2 HB1.out.size;clear hM1 hm hb)
  | (go_at_call 73;refine(Aq _ _ _).mono ?_;rintro e w2 ⟨rfl,rfl⟩)
  | (refine(HO.out _).mono ?_;rintro e w3 ⟨rfl,hb3⟩;have HB3:=hide hb3;have q0:=(hb3.cell (p:=⟨w1.heap.size,0,none⟩) (by simp;omega));have q1:=(hb3.cell (p:=⟨w1.heap.size,1,none⟩) (by simp;omega));simp at q0 q1;clear hb3))
 go_ret
 exact⟨by rw[HV.out];rfl,(((HB1.out.alloc HB1.out.size _).alloc (by have:=HB1.out.size;simp;omega) _).trans (HB3.out.mono (by have:=HB1.out.size;simp;omega)))⟩
theorem Np (h:MH) (m:AC) (a rk:Nat) (w:World) (d:MD w w.heap.size h m) (ha:a<m.mT.length) (hrk:rk<m.rT.length) (er:m.mT[a].rack=(rk:Int)+1) (hn:AP m.rT[rk].site m.sT.length=false) :
    Calls Tryz.prog 31 #[.agg #[.slice h.s m.sT.length h.sc,.slice h.f m.fT.length h.fc,.slice h.r m.rT.length h.rc,.slice h.m m.mT.length h.mc,.slice h.l m.lT.length h.lc,.slice h.i m.iT.length h.ic,.int .i64 m.dT,.int .i64 m.oT,.int .i64 m.vT,.int .i64 m.aT,.slice h.u m.uT.length h.uc],.int .i64 4,.int .i64 ((a:Int)+1)] w (EC m 4 ((a:Int)+1) w):=by
 have l0:=d.ml
 have l1:=d.rl
 have l2:=d.fl
 have l3:=d.sl
 have HB:=hide (((Below.refl w.heap.size w).alloc (Nat.le_refl _) (.cells #[.slice h.s m.sT.length h.sc,.slice h.f m.fT.length h.fc,.slice h.r m.rT.length h.rc,.slice h.m m.mT.length h.mc,.slice h.l m.lT.length h.lc,.slice h.i m.iT.length h.ic,.int .i64 m.dT,.int .i64 m.oT,.int .i64 m.vT,.int .i64 m.aT,.slice h.u m.uT.length h.uc] 29)))
 have HM0:=hide (AB.new w 29 #[.slice h.s m.sT.length h.sc,.slice h.f m.fT.length h.fc,.slice h.r m.rT.length h.rc,.slice h.m m.mT.length h.mc,.slice h.l m.lT.length h.lc,.slice h.i m.iT.length h.ic,.int .i64 m.dT,.int .i64 m.oT,.int .i64 m.vT,.int .i64 m.aT,.slice h.u m.uT.length h.uc])
 have HK:=hide (BP h m (w.alloc (.cells #[.slice h.s m.sT.length h.sc,.slice h.f m.fT.length h.fc,.slice h.r m.rT.length h.rc,.slice h.m m.mT.length h.mc,.slice h.l m.lT.length h.lc,.slice h.i m.iT.length h.ic,.int .i64 m.dT,.int .i64 m.oT,.int .i64 m.vT,.int .i64 m.aT,.slice h.u m.uT.length h.uc] 29)) l0 l1 l2 l3)
 have HL:=hide (fun(w:World) (r:Nat) (hg:w.heap[r]? = some (.map (sk m) 4))=>Ak (b:=true) (v:=.agg #[.int .i64 m.sT.length,.func (.func 128) #[] #[]]) Tryz.underlying119 Tryz.underlying3 (BQ w) hg (GR m) rfl)
 obtain⟨b,off,hA,hb0,x0,x1,x2,hz⟩:=d.dM.mach ha
 obtain⟨b2,off2,hA2,hb2,z0,z1,z2,_⟩:=d.dR.rack hrk
 obtain⟨x,hx2⟩:∃ x,m.rT[rk]=x:=⟨_,rfl⟩
 rw[hx2] at z0 z1 z2
 have HN:=FB (by_:=4) ha hrk er
 rw[hx2] at HN
 have HA:=hide hA
 have HA2:=hide hA2
 rw[hA,hA2] at HB HK HM0 ⊢
 rw[er] at x1
 have hx:AP ((a:Int)+1) m.mT.length=true:=by simp[AP];omega
 have hxr:AP ((rk:Int)+1) m.rT.length=true:=by simp[AP];omega
 have haI:(a:Int)<(m.mT.length:Int):=by omega
 have hrI:(rk:Int)<(m.rT.length:Int):=by omega
 have hb1:b<w.heap.size:=hb0
 have HO:=hide (fun w=>M8 ((a:Int)+1) ((rk:Int)+1) x w)
 rw[hx2] at hn
 have HV:=hide (Mh HN hn)
 clear d hA hA2 hb0 x2 hz x0 HN
 go_enter Tryz.func31,Tryz.ntmps31
 go_wp2_with (first
  | (go_at_call 72;refine HK.out.mono ?_;rintro e w1 ⟨r,rfl,hm,hb⟩;have hlk:=HL.out w1 r hm;have HB1:=hide (HB.out.trans (hb.mono HB.out.size));have hM1:=HM0.out.below hb (by simp);rw[← HA.out,← HA2.out] at hM1;obtain⟨a0,a1,a2,a3,a4,a5,a6,a7,a8,a9,a10⟩:=MB.cells hM1;have al:=hM1.lt;rw[HA.out] at a3;rw[HA2.out] at a2
     have y1:=((HB1.out.cell (p:=⟨b,off+a*3+1,none⟩) hb1)).trans x1;have v0:=((HB1.out.cell (p:=⟨b2,off2+rk*3,none⟩) hb2)).trans z0;have v1:=((HB1.out.cell (p:=⟨b2,off2+rk*3+1,none⟩) hb2)).trans z1;have v2:=((HB1.out.cell (p:=⟨b2,off2+rk*3+2,none⟩) hb2)).trans z2
     have hbl:=Nat.lt_of_lt_of_le hb1 HB1.out.size;have hbl2:=Nat.lt_of_lt_of_le hb2 HB1.out.size;clear hM1 hm hb)
  | (go_at_call 73;refine(Aq _ _ _).mono ?_;rintro e w2 ⟨rfl,rfl⟩)
  | (refine(HO.out _).mono ?_;rintro e w3 ⟨rfl,hb3⟩;have HB3:=hide hb3;have q0:=(hb3.cell (p:=⟨w1.heap.size,0,none⟩) (by simp;omega));have q1:=(hb3.cell (p:=⟨w1.heap.size,1,none⟩) (by simp;omega));simp at q0 q1;clear hb3))
 go_ret
 exact⟨by rw[HV.out];rfl,(((HB1.out.alloc HB1.out.size _).alloc (by have:=HB1.out.size;simp;omega) _).trans (HB3.out.mono (by have:=HB1.out.size;simp;omega)))⟩
theorem Ki (h:MH) (m:AC) (a:Nat) (w:World) (d:MD w w.heap.size h m) (ha:a<m.mT.length) (hr:AP m.mT[a].rack m.rT.length=false) :
    Calls Tryz.prog 31 #[.agg #[.slice h.s m.sT.length h.sc,.slice h.f m.fT.length h.fc,.slice h.r m.rT.length h.rc,.slice h.m m.mT.length h.mc,.slice h.l m.lT.length h.lc,.slice h.i m.iT.length h.ic,.int .i64 m.dT,.int .i64 m.oT,.int .i64 m.vT,.int .i64 m.aT,.slice h.u m.uT.length h.uc],.int .i64 1,.int .i64 ((a:Int)+1)] w (EC m 1 ((a:Int)+1) w):=by
 have l0:=d.ml
 have l1:=d.rl
 have l2:=d.fl
 have l3:=d.sl
 have HB:=hide (((Below.refl w.heap.size w).alloc (Nat.le_refl _) (.cells #[.slice h.s m.sT.length h.sc,.slice h.f m.fT.length h.fc,.slice h.r m.rT.length h.rc,.slice h.m m.mT.length h.mc,.slice h.l m.lT.length h.lc,.slice h.i m.iT.length h.ic,.int .i64 m.dT,.int .i64 m.oT,.int .i64 m.vT,.int .i64 m.aT,.slice h.u m.uT.length h.uc] 29)))
 have HM0:=hide (AB.new w 29 #[.slice h.s m.sT.length h.sc,.slice h.f m.fT.length h.fc,.slice h.r m.rT.length h.rc,.slice h.m m.mT.length h.mc,.slice h.l m.lT.length h.lc,.slice h.i m.iT.length h.ic,.int .i64 m.dT,.int .i64 m.oT,.int .i64 m.vT,.int .i64 m.aT,.slice h.u m.uT.length h.uc])
 have HK:=hide (BP h m (w.alloc (.cells #[.slice h.s m.sT.length h.sc,.slice h.f m.fT.length h.fc,.slice h.r m.rT.length h.rc,.slice h.m m.mT.length h.mc,.slice h.l m.lT.length h.lc,.slice h.i m.iT.length h.ic,.int .i64 m.dT,.int .i64 m.oT,.int .i64 m.vT,.int .i64 m.aT,.slice h.u m.uT.length h.uc] 29)) l0 l1 l2 l3)
 have HL:=hide (fun(w:World) (r:Nat) (hg:w.heap[r]? = some (.map (sk m) 4))=>Ak (b:=true) (v:=.agg #[.int .i64 m.mT.length,.func (.func 125) #[] #[]]) Tryz.underlying119 Tryz.underlying3 (BQ w) hg (IJ m) rfl)
 obtain⟨b,off,hA,hb0,x0,x1,x2,hz⟩:=d.dM.mach ha
 have HA:=hide hA
 rw[hA] at HB HK HM0 ⊢
 have hx:AP ((a:Int)+1) m.mT.length=true:=by simp[AP];omega
 have haI:(a:Int)<(m.mT.length:Int):=by omega
 have hb1:b<w.heap.size:=hb0
 have HV:=hide (GI (by_:=1) ha (if_pos rfl) hx)
 obtain⟨rk,hrk⟩:∃ rk,rk=m.mT[a].rack:=⟨_,rfl⟩
 rw[← hrk] at hr x1
 have HO:=hide (fun w=>M6 ((a:Int)+1) rk ⟨⟨#[]⟩,0,0⟩ w)
 clear d hA hb0 x2 hz x0 hrk
 go_enter Tryz.func31,Tryz.ntmps31
 go_wp2_with (first
  | (go_at_call 72;refine HK.out.mono ?_;rintro e w1 ⟨r,rfl,hm,hb⟩;have hlk:=HL.out w1 r hm;have HB1:=hide (HB.out.trans (hb.mono HB.out.size));have hM1:=HM0.out.below hb (by simp);rw[← HA.out] at hM1;obtain⟨a0,a1,a2,a3,a4,a5,a6,a7,a8,a9,a10⟩:=MB.cells hM1;have al:=hM1.lt;rw[HA.out] at a3;have y1:=((HB1.out.cell (p:=⟨b,off+a*3+1,none⟩) hb1)).trans x1;have hbl:=Nat.lt_of_lt_of_le hb1 HB1.out.size;clear hM1 hm hb)
  | (go_at_call 73;refine(Aq _ _ _).mono ?_;rintro e w2 ⟨rfl,rfl⟩)
  | (refine(HO.out _).mono ?_;rintro e w3 ⟨rfl,hb3⟩;have HB3:=hide hb3;have q0:=(hb3.cell (p:=⟨w1.heap.size,0,none⟩) (by simp;omega));have q1:=(hb3.cell (p:=⟨w1.heap.size,1,none⟩) (by simp;omega));simp at q0 q1;clear hb3))
 go_ret
 exact⟨by rw[HV.out];rfl,(((HB1.out.alloc HB1.out.size _).alloc (by have:=HB1.out.size;simp;omega) _).trans (HB3.out.mono (by have:=HB1.out.size;simp;omega)))⟩
end Go.Proofs.YtfemlajeomohhaaGreatDoor
