/- A part of the claim: see its last text. -/
import Derived.Test.YtfemlajeomohhaaGreatDoorUK37
import Derived.Lib.ItoaLen
import Derived.Deep.CutBlock

set_option maxRecDepth 100000
set_option maxHeartbeats 16000000
namespace Go.Proofs.YtfemlajeomohhaaGreatDoor
open Go Go.RowKit Go.Proofs
structure SU (w:World) (M:Array Value) (A:Option Addr) (n c:Nat) (W:World):Prop where
 m:AB W w.heap.size 29 M
 l:AB W (w.heap.size+1) 30 #[.slice A n c]
 b:Below w.heap.size w W
theorem SU.start (w:World) (M:Array Value) (A:Option Addr) (n c:Nat):SU w M A n c ((w.alloc (.cells M 29)).alloc (.cells #[.slice A n c] 30)) :=
 ⟨(AB.new w _ M).alloc _,by simpa using AB.new (w.alloc (.cells M 29)) 30 #[.slice A n c],((Below.refl _ _).alloc (Nat.le_refl _) _).alloc (by simp) _⟩
theorem SU.drew{w:World}{M:Array Value}{A:Option Addr}{n c:Nat}{W:World}(s:SU w M A n c W):SU w M A n c W.drew:=⟨s.m,s.l,s.b.drew⟩
theorem SU.grow{w:World}{M:Array Value}{A:Option Addr}{n c:Nat}{W W2:World}(s:SU w M A n c W)(hb:Below W.heap.size W W2):SU w M A n c W2:=⟨s.m.below hb s.m.lt,s.l.below hb s.l.lt,s.b.trans (hb.mono s.b.size)⟩
theorem SU.alloc{w:World}{M:Array Value}{A:Option Addr}{n c:Nat}{W:World}(s:SU w M A n c W){o:Obj}:SU w M A n c (W.alloc o):=s.grow ((Below.refl _ _).alloc (Nat.le_refl _) _)
theorem SU.cells{w:World}{h:MH}{m:AC}{A:Option Addr}{n c:Nat}{W:World}(s:SU w #[.slice h.s m.sT.length h.sc,.slice h.f m.fT.length h.fc,.slice h.r m.rT.length h.rc,.slice h.m m.mT.length h.mc,.slice h.l m.lT.length h.lc,.slice h.i m.iT.length h.ic,.int .i64 m.dT,.int .i64 m.oT,.int .i64 m.vT,.int .i64 m.aT,.slice h.u m.uT.length h.uc] A n c W):(W.cell? ⟨w.heap.size,0,none⟩=some (.slice h.s m.sT.length h.sc)∧W.cell? ⟨w.heap.size,1,none⟩=some (.slice h.f m.fT.length h.fc)∧W.cell? ⟨w.heap.size,2,none⟩=some (.slice h.r m.rT.length h.rc)∧W.cell? ⟨w.heap.size,3,none⟩=some (.slice h.m m.mT.length h.mc)∧W.cell? ⟨w.heap.size,4,none⟩=some (.slice h.l m.lT.length h.lc)∧W.cell? ⟨w.heap.size,5,none⟩=some (.slice h.i m.iT.length h.ic)∧W.cell? ⟨w.heap.size,6,none⟩=some (.int .i64 m.dT)∧W.cell? ⟨w.heap.size,7,none⟩=some (.int .i64 m.oT)∧W.cell? ⟨w.heap.size,8,none⟩=some (.int .i64 m.vT)∧W.cell? ⟨w.heap.size,9,none⟩=some (.int .i64 m.aT)∧W.cell? ⟨w.heap.size,10,none⟩=some (.slice h.u m.uT.length h.uc))∧W.cell? ⟨w.heap.size+1,0,none⟩=some (.slice A n c):=⟨MB.cells s.m,s.l.cell 0⟩
theorem SU.own5 {w:World} {M:Array Value} {A:Option Addr} {n c:Nat} {w2:World} {a1 a2 a3 a4 a5:ByteArray} (s:SU w M A n c (w2.alloc (.cells #[.string a1,.string a2,.string a3,.string a4,.string a5] 9))) (h2:w.heap.size≤w2.heap.size) :
    BI w.heap.size (w2.alloc (.cells #[.string a1,.string a2,.string a3,.string a4,.string a5] 9)) (.slice (some ⟨w2.heap.size,0,none⟩) 5 5) [a1,a2,a3,a4,a5]∧Below w.heap.size w (w2.alloc (.cells #[.string a1,.string a2,.string a3,.string a4,.string a5] 9)) :=
 ⟨BI.new w2 [a1,a2,a3,a4,a5] h2 (show 5≤maxLen by decide),s.b⟩
def Tu(w:World)(L:List ByteArray)(e:Ending)(w':World):Prop:=∃ A c,e=.returned (.slice A L.length c)∧Strs w' w'.heap.size A L∧Below w.heap.size w w'
def FU(q:Int):ByteArray:=if q=1 then(⟨#[101,118,97,99,117,97,116,101,100]⟩:ByteArray) else if q=2 then(⟨#[105,109,112,111,115,115,105,98,108,101]⟩:ByteArray) else(⟨#[119,111,114,107,105,110,103]⟩:ByteArray)
theorem KY(q:Int):(FU q).size≤10:=by unfold FU;split <;> (try split) <;> decide
def JE (m:AC) (l:List EvM):List ByteArray :=
 [(⟨#[101,118,101,110,116,115,32]⟩:ByteArray)++BO (l.length:Int),(((⟨#[114,101,113,117,101,115,116,115,32]⟩:ByteArray)++BO (Ao 0 l:Int))++(⟨#[44,32,97,110,115,119,101,114,115,32]⟩:ByteArray))++BO (Ao 1 l:Int),(⟨#[99,111,110,102,105,103,117,114,97,116,105,111,110,115,32]⟩:ByteArray)++BO (Ao 2 l:Int),(⟨#[111,117,116,99,111,109,101,32]⟩:ByteArray)++FU (Bh l).1,(⟨#[98,114,101,97,99,104,101,115,32]⟩:ByteArray)++BO ((CE m l).length:Int)]++if BV l<0 then [] else [(⟨#[105,110,32,116,104,101,32,100,97,114,107,32]⟩:ByteArray)++BO ((EH m l).length:Int)]
theorem C9 {n:Int} (h0 : -9223372036854775808≤n) (h1:n≤9223372036854775807):(BO n).size≤21:=by
 have:=Lib.itoa_length_le n h0 h1
 unfold BO S
 simpa[ByteArray.size] using this
theorem LG {m:AC} {l:List EvM} (hv:Ab m=true) (hl:l.length≤60) (hold:∀ x∈l,x.old.length≤10):(EH m l).length≤100000:=by
 obtain⟨s1,s2,s3,s4,s5,s6⟩:=Dh hv
 unfold EH
 split
 · simp
 · have q1:=Fu (m:=m) (Room.placeAt (m:=m) (l:=l) (by omega) (fun y hy=>by have:=FI hv hy;omega) hold (BV l).toNat) m.iT.length
   have q2:=(Im (p:=fun x:EvM=>decide (x.kind=5)) (l:=l) (by unfold BV at *;omega)).1
   have q3:(BV l).toNat≤60:=by unfold BV;omega
   have q4:m.iT.length*(100+11*(BV l).toNat)≤8*760:=Nat.mul_le_mul s1 (by omega)
   omega
theorem Ji (h:MH) (m:AC) (l:List EvM) (A:Option Addr) (c:Nat) (w:World) (C:Jv w h m) (k1:m.rT.length≤h.rc) (k2:m.mT.length≤h.mc) (k3:m.lT.length≤h.lc) (ha:Asc w) (hpw:F7 w) (hv:Ab m=true)
    (hE:Rows BD 22 w w.heap.size A l) (hl:l.length≤60) (hold:∀ x∈l,x.old.length≤10) (hcc:BV l<0∨(l.length≤c∧c≤9223372036854775807)) :
    Calls Tryz.prog 11 #[.agg #[.slice h.s m.sT.length h.sc,.slice h.f m.fT.length h.fc,.slice h.r m.rT.length h.rc,.slice h.m m.mT.length h.mc,.slice h.l m.lT.length h.lc,.slice h.i m.iT.length h.ic,.int .i64 m.dT,.int .i64 m.oT,.int .i64 m.vT,.int .i64 m.aT,.slice h.u m.uT.length h.uc],.slice A l.length c] w (Tu w (JE m l)):=by
 have hs:=SU.start w #[.slice h.s m.sT.length h.sc,.slice h.f m.fT.length h.fc,.slice h.r m.rT.length h.rc,.slice h.m m.mT.length h.mc,.slice h.l m.lT.length h.lc,.slice h.i m.iT.length h.ic,.int .i64 m.dT,.int .i64 m.oT,.int .i64 m.vT,.int .i64 m.aT,.slice h.u m.uT.length h.uc] A l.length c
 have HV:=hide (D7 h m _ (C.d.grow hs.b) k1 k2 k3 (ha.below (Nat.le_refl _) hs.b) hv)
 have HOC:=hide (fun W (hW:Below w.heap.size w W)=>NA A c l W (by omega) (hE.grow hW))
 have HDK:=hide (fun W (hW:Below w.heap.size w W)=>EU A c l W (by omega) (hE.grow hW))
 have HBR:=hide (fun W (hW:Below w.heap.size w W)=>IR h m l A c W ⟨C.d.grow hW,C.f,C.il,C.il2,C.on,C.rl⟩ k1 k2 k3 (ha.below (Nat.le_refl _) hW) hv (hE.grow hW) hl hold)
 have HDU:=hide (fun W (hW:Below w.heap.size w W) (hcc:l.length≤c∧c≤9223372036854775807)=>Qb h m l A c W (C.d.grow hW) k1 k2 k3 (ha.below (Nat.le_refl _) hW) hv (hE.grow hW) (by omega) hcc.1 hcc.2 hold)
 have hbl:(CE m l).length≤60*100:=Nat.le_trans (Dp m l l.length) (Nat.mul_le_mul hl C.rl)
 have hdl:=LG hv hl hold
 obtain⟨s0,hs0⟩:∃ s,s=BO (l.length:Int):=⟨_,rfl⟩
 have z0:s0.size≤21:=by rw[hs0];exact C9 (by omega) (by omega)
 obtain⟨s4,hs4⟩:∃ s,s=BO ((CE m l).length:Int):=⟨_,rfl⟩
 have z4:s4.size≤21:=by rw[hs4];exact C9 (by omega) (by omega)
 obtain⟨s5,hs5⟩:∃ s,s=BO ((EH m l).length:Int):=⟨_,rfl⟩
 have z5:s5.size≤21:=by rw[hs5];exact C9 (by omega) (by omega)
 have HI1:=hide (fun W (hW:Below w.heap.size w W)=>IB (l.length:Int) W (hpw.below (Nat.le_refl _) hW) (by simp[JK];omega))
 have HI2:=hide (fun W (hW:Below w.heap.size w W)=>IB ((CE m l).length:Int) W (hpw.below (Nat.le_refl _) hW) (by simp[JK];omega))
 have HI3:=hide (fun W (hW:Below w.heap.size w W)=>IB ((EH m l).length:Int) W (hpw.below (Nat.le_refl _) hW) (by simp[JK];omega))
 rw[← hs0] at HI1
 rw[← hs4] at HI2
 rw[← hs5] at HI3
 have hk0:Ao 0 l≤60:=by unfold Ao;have:=List.length_filter_le (fun x:EvM=>decide (x.kind=0)) l;omega
 obtain⟨s1,hs1⟩:∃ s,s=BO (Ao 0 l:Int):=⟨_,rfl⟩
 have z1:s1.size≤21:=by rw[hs1];exact C9 (by omega) (by omega)
 have HC0:=hide (fun W (s:SU w #[.slice h.s m.sT.length h.sc,.slice h.f m.fT.length h.fc,.slice h.r m.rT.length h.rc,.slice h.m m.mT.length h.mc,.slice h.l m.lT.length h.lc,.slice h.i m.iT.length h.ic,.int .i64 m.dT,.int .i64 m.oT,.int .i64 m.vT,.int .i64 m.aT,.slice h.u m.uT.length h.uc] A l.length c W)=>H6 0 A c l (w.heap.size+1) w.heap.size W (by omega) s.b.size (hpw.below (Nat.le_refl _) s.b) (hE.below s.b) s.l)
 rw[← hs1] at HC0
 have hk1:Ao 1 l≤60:=by unfold Ao;have:=List.length_filter_le (fun x:EvM=>decide (x.kind=1)) l;omega
 obtain⟨s2,hs2⟩:∃ s,s=BO (Ao 1 l:Int):=⟨_,rfl⟩
 have z2:s2.size≤21:=by rw[hs2];exact C9 (by omega) (by omega)
 have HC1:=hide (fun W (s:SU w #[.slice h.s m.sT.length h.sc,.slice h.f m.fT.length h.fc,.slice h.r m.rT.length h.rc,.slice h.m m.mT.length h.mc,.slice h.l m.lT.length h.lc,.slice h.i m.iT.length h.ic,.int .i64 m.dT,.int .i64 m.oT,.int .i64 m.vT,.int .i64 m.aT,.slice h.u m.uT.length h.uc] A l.length c W)=>H6 1 A c l (w.heap.size+1) w.heap.size W (by omega) s.b.size (hpw.below (Nat.le_refl _) s.b) (hE.below s.b) s.l)
 rw[← hs2] at HC1
 have hk2:Ao 2 l≤60:=by unfold Ao;have:=List.length_filter_le (fun x:EvM=>decide (x.kind=2)) l;omega
 obtain⟨s3,hs3⟩:∃ s,s=BO (Ao 2 l:Int):=⟨_,rfl⟩
 have z3:s3.size≤21:=by rw[hs3];exact C9 (by omega) (by omega)
 have HC2:=hide (fun W (s:SU w #[.slice h.s m.sT.length h.sc,.slice h.f m.fT.length h.fc,.slice h.r m.rT.length h.rc,.slice h.m m.mT.length h.mc,.slice h.l m.lT.length h.lc,.slice h.i m.iT.length h.ic,.int .i64 m.dT,.int .i64 m.oT,.int .i64 m.vT,.int .i64 m.aT,.slice h.u m.uT.length h.uc] A l.length c W)=>H6 2 A c l (w.heap.size+1) w.heap.size W (by omega) s.b.size (hpw.below (Nat.le_refl _) s.b) (hE.below s.b) s.l)
 rw[← hs3] at HC2
 obtain⟨wd,hwd⟩:∃ wd,wd=FU (Bh l).1:=⟨_,rfl⟩
 have zo:wd.size≤10:=by rw[hwd];exact KY _
 have HSM:=hide (show JE m l=[(⟨#[101,118,101,110,116,115,32]⟩:ByteArray)++s0,(((⟨#[114,101,113,117,101,115,116,115,32]⟩:ByteArray)++s1)++(⟨#[44,32,97,110,115,119,101,114,115,32]⟩:ByteArray))++s2,(⟨#[99,111,110,102,105,103,117,114,97,116,105,111,110,115,32]⟩:ByteArray)++s3,(⟨#[111,117,116,99,111,109,101,32]⟩:ByteArray)++wd,(⟨#[98,114,101,97,99,104,101,115,32]⟩:ByteArray)++s4]++if BV l<0 then [] else [(⟨#[105,110,32,116,104,101,32,100,97,114,107,32]⟩:ByteArray)++s5] by rw[hs0,hs1,hs2,hs3,hwd,hs4,hs5];rfl)
 obtain⟨ds,hds⟩:∃ ds,ds=EH m l:=⟨_,rfl⟩
 rw[← hds] at HDU HI3
 clear hs0 hs1 hs2 hs3 hs4 hs5 hk0 hk1 hk2 hds hdl
 have y0:(⟨#[101,118,101,110,116,115,32]⟩:ByteArray).size≤7:=Nat.le_refl _
 have y1:(⟨#[114,101,113,117,101,115,116,115,32]⟩:ByteArray).size≤9:=Nat.le_refl _
 have y2:(⟨#[44,32,97,110,115,119,101,114,115,32]⟩:ByteArray).size≤10:=Nat.le_refl _
 have y3:(⟨#[99,111,110,102,105,103,117,114,97,116,105,111,110,115,32]⟩:ByteArray).size≤15:=Nat.le_refl _
 have yo:(⟨#[111,117,116,99,111,109,101,32]⟩:ByteArray).size≤8:=Nat.le_refl _
 have y4:(⟨#[98,114,101,97,99,104,101,115,32]⟩:ByteArray).size≤9:=Nat.le_refl _
 have y5:(⟨#[105,110,32,116,104,101,32,100,97,114,107,32]⟩:ByteArray).size≤12:=Nat.le_refl _
 have q0:∀ W,(Op.stringOp .add (⟨#[101,118,101,110,116,115,32]⟩:ByteArray) s0).run Tryz.prog W=.ok (.string ((⟨#[101,118,101,110,116,115,32]⟩:ByteArray)++s0)) W:=fun W=>run_string_add_sum W _ _ (by first|omega|(simp only[ByteArray.size_append];omega))
 have q1:∀ W,(Op.stringOp .add (⟨#[114,101,113,117,101,115,116,115,32]⟩:ByteArray) s1).run Tryz.prog W=.ok (.string ((⟨#[114,101,113,117,101,115,116,115,32]⟩:ByteArray)++s1)) W:=fun W=>run_string_add_sum W _ _ (by first|omega|(simp only[ByteArray.size_append];omega))
 have q2:∀ W,(Op.stringOp .add ((⟨#[114,101,113,117,101,115,116,115,32]⟩:ByteArray)++s1) (⟨#[44,32,97,110,115,119,101,114,115,32]⟩:ByteArray)).run Tryz.prog W=.ok (.string (((⟨#[114,101,113,117,101,115,116,115,32]⟩:ByteArray)++s1)++(⟨#[44,32,97,110,115,119,101,114,115,32]⟩:ByteArray))) W:=fun W=>run_string_add_sum W _ _ (by first|omega|(simp only[ByteArray.size_append];omega))
 have q3:∀ W,(Op.stringOp .add ((⟨#[114,101,113,117,101,115,116,115,32]⟩:ByteArray)++s1++(⟨#[44,32,97,110,115,119,101,114,115,32]⟩:ByteArray)) s2).run Tryz.prog W=.ok (.string (((⟨#[114,101,113,117,101,115,116,115,32]⟩:ByteArray)++s1++(⟨#[44,32,97,110,115,119,101,114,115,32]⟩:ByteArray))++s2)) W:=fun W=>run_string_add_sum W _ _ (by first|omega|(simp only[ByteArray.size_append];omega))
 have q4:∀ W,(Op.stringOp .add (⟨#[99,111,110,102,105,103,117,114,97,116,105,111,110,115,32]⟩:ByteArray) s3).run Tryz.prog W=.ok (.string ((⟨#[99,111,110,102,105,103,117,114,97,116,105,111,110,115,32]⟩:ByteArray)++s3)) W:=fun W=>run_string_add_sum W _ _ (by first|omega|(simp only[ByteArray.size_append];omega))
 have qo:∀ W,(Op.stringOp .add (⟨#[111,117,116,99,111,109,101,32]⟩:ByteArray) wd).run Tryz.prog W=.ok (.string ((⟨#[111,117,116,99,111,109,101,32]⟩:ByteArray)++wd)) W:=fun W=>run_string_add_sum W _ _ (by first|omega|(simp only[ByteArray.size_append];omega))
 have q5:∀ W,(Op.stringOp .add (⟨#[98,114,101,97,99,104,101,115,32]⟩:ByteArray) s4).run Tryz.prog W=.ok (.string ((⟨#[98,114,101,97,99,104,101,115,32]⟩:ByteArray)++s4)) W:=fun W=>run_string_add_sum W _ _ (by first|omega|(simp only[ByteArray.size_append];omega))
 have q6:∀ W,(Op.stringOp .add (⟨#[105,110,32,116,104,101,32,100,97,114,107,32]⟩:ByteArray) s5).run Tryz.prog W=.ok (.string ((⟨#[105,110,32,116,104,101,32,100,97,114,107,32]⟩:ByteArray)++s5)) W:=fun W=>run_string_add_sum W _ _ (by first|omega|(simp only[ByteArray.size_append];omega))
 have HS0:=hide hs
 obtain⟨dk,hdk2⟩:∃ dk,dk=BV l:=⟨_,rfl⟩
 rw[← hdk2] at HDK hcc HSM
 have HCC:=hide hcc
 clear hs C k1 k2 k3 ha hpw hv hE hold hdk2 hbl z0 z1 z2 z3 z4 z5 zo y0 y1 y2 y3 y4 y5 yo hcc
 obtain⟨qa,qb,hq⟩:∃ qa qb,Bh l=(qa,qb):=⟨_,_,rfl⟩
 simp only[hq] at HOC hwd
 have HWD:=hide hwd
 clear hq hwd
 go_enter Tryz.func11,Tryz.ntmps11
 go_upto_block 0 with(first
  | (go_at_call 23;refine HV.out.mono ?_;rintro e w1 ⟨rfl,hb1⟩;have hs1:=SU.grow HS0.out hb1;obtain⟨⟨a0,a1,a2,a3,a4,a5,a6,a7,a8,a9,a10⟩,al⟩:=SU.cells hs1;have mlt:=hs1.m.lt;have llt:=hs1.l.lt;have HS1:=hide hs1;have HOC1:=hide (HOC.out w1 hs1.b);clear hb1 hs1)
  | (go_at_call 37;refine HOC1.out.mono ?_;rintro e w2 ⟨rfl,hb2⟩;have hs2:=SU.grow HS1.out hb2;have HS:=hide hs2;clear a0 a1 a2 a3 a4 a5 a6 a7 a8 a9 a10 al mlt llt hb2 hs2))
 go_cut [8] from 19 to 24 (fun u wx=>u=.string wd∧SU w #[.slice h.s m.sT.length h.sc,.slice h.f m.fT.length h.fc,.slice h.r m.rT.length h.rc,.slice h.m m.mT.length h.mc,.slice h.l m.lT.length h.lc,.slice h.i m.iT.length h.ic,.int .i64 m.dT,.int .i64 m.oT,.int .i64 m.vT,.int .i64 m.aT,.slice h.u m.uT.length h.uc] A l.length c wx)
 case first =>
  by_cases e1:qa=1
  · have HW2:=hide (show wd=(⟨#[101,118,97,99,117,97,116,101,100]⟩:ByteArray) by rw[HWD.out,FU,if_pos e1])
    subst e1
    go_wp2_with fail
    go_meet
    case rel=>exact⟨by rw[HW2.out],HS.out⟩
  · by_cases e2:qa=2
    · have HW2:=hide (show wd=(⟨#[105,109,112,111,115,115,105,98,108,101]⟩:ByteArray) by rw[HWD.out,FU,if_neg e1,if_pos e2])
      have e1b:(qa == 1)=false:=by simpa using e1
      subst e2
      go_wp2_with fail
      go_meet
      case rel=>exact⟨by rw[HW2.out],HS.out⟩
    · have HW2:=hide (show wd=(⟨#[119,111,114,107,105,110,103]⟩:ByteArray) by rw[HWD.out,FU,if_neg e1,if_neg e2])
      have e1b:(qa == 1)=false:=by simpa using e1
      have e2b:(qa == 2)=false:=by simpa using e2
      clear e1 e2
      go_wp2_with fail
      go_meet
      case rel=>exact⟨by rw[HW2.out],HS.out⟩
 case rest =>
  obtain⟨rfl,hs⟩:=hcut
  clear HS
  have HS:=hide hs
  clear hs
  go_wp2_with fail
  go_region_held3 (fun W=>((W.cell? ⟨w.heap.size,0,none⟩=some (.slice h.s m.sT.length h.sc)∧W.cell? ⟨w.heap.size,1,none⟩=some (.slice h.f m.fT.length h.fc)∧W.cell? ⟨w.heap.size,2,none⟩=some (.slice h.r m.rT.length h.rc)∧W.cell? ⟨w.heap.size,3,none⟩=some (.slice h.m m.mT.length h.mc)∧W.cell? ⟨w.heap.size,4,none⟩=some (.slice h.l m.lT.length h.lc)∧W.cell? ⟨w.heap.size,5,none⟩=some (.slice h.i m.iT.length h.ic)∧W.cell? ⟨w.heap.size,6,none⟩=some (.int .i64 m.dT)∧W.cell? ⟨w.heap.size,7,none⟩=some (.int .i64 m.oT)∧W.cell? ⟨w.heap.size,8,none⟩=some (.int .i64 m.vT)∧W.cell? ⟨w.heap.size,9,none⟩=some (.int .i64 m.aT)∧W.cell? ⟨w.heap.size,10,none⟩=some (.slice h.u m.uT.length h.uc))∧W.cell? ⟨w.heap.size+1,0,none⟩=some (.slice A l.length c))∧SU w #[.slice h.s m.sT.length h.sc,.slice h.f m.fT.length h.fc,.slice h.r m.rT.length h.rc,.slice h.m m.mT.length h.mc,.slice h.l m.lT.length h.lc,.slice h.i m.iT.length h.ic,.int .i64 m.dT,.int .i64 m.oT,.int .i64 m.vT,.int .i64 m.aT,.slice h.u m.uT.length h.uc] A l.length c W)
   (with_reducible (first|(go_keep;done)|exact⟨SU.cells HS.out.drew,HS.out.drew⟩|exact⟨SU.cells c6,c6⟩|exact⟨SU.cells c5,c5⟩|exact⟨SU.cells c4,c4⟩|exact⟨SU.cells c3,c3⟩|exact⟨SU.cells c2,c2⟩|exact⟨SU.cells c1,c1⟩|(have hH:=(by assumption:_∧SU _ _ _ _ _ _);first|exact⟨SU.cells (SU.drew hH.2),SU.drew hH.2⟩|exact⟨SU.cells (SU.alloc hH.2),SU.alloc hH.2⟩)))
   (first|(go_at_call 36;first|(have hH:=(by assumption:_∧SU _ _ _ _ _ _);have hbw:=SU.b hH.2;(with_reducible refine(HI1.out _ hbw).mono ?_);rintro e w2 ⟨rfl,hb⟩;have c1:=SU.grow hH.2 hb;clear hb hH hbw)|(have hH:=And.intro (SU.cells HS.out.drew) HS.out.drew;have hbw:=SU.b hH.2;(with_reducible refine(HI1.out _ hbw).mono ?_);rintro e w2 ⟨rfl,hb⟩;have c1:=SU.grow hH.2 hb;clear hb hH hbw)|(have hH:=(by assumption:_∧SU _ _ _ _ _ _);have hbw:=SU.b hH.2;(with_reducible refine(HI2.out _ hbw).mono ?_);rintro e w2 ⟨rfl,hb⟩;have c6:=SU.grow hH.2 hb;clear hb hH hbw)|(have hH:=And.intro (SU.cells HS.out.drew) HS.out.drew;have hbw:=SU.b hH.2;(with_reducible refine(HI2.out _ hbw).mono ?_);rintro e w2 ⟨rfl,hb⟩;have c6:=SU.grow hH.2 hb;clear hb hH hbw))|(go_at_call 35;first|(have hH:=(by assumption:_∧SU _ _ _ _ _ _);have hbw:=SU.b hH.2;(with_reducible refine(HC0.out _ hH.2).mono ?_);rintro e w3 ⟨rfl,hb⟩;have c2:=SU.grow hH.2 hb;clear hb hH hbw)|(have hH:=And.intro (SU.cells HS.out.drew) HS.out.drew;have hbw:=SU.b hH.2;(with_reducible refine(HC0.out _ hH.2).mono ?_);rintro e w3 ⟨rfl,hb⟩;have c2:=SU.grow hH.2 hb;clear hb hH hbw)|(have hH:=(by assumption:_∧SU _ _ _ _ _ _);have hbw:=SU.b hH.2;(with_reducible refine(HC1.out _ hH.2).mono ?_);rintro e w3 ⟨rfl,hb⟩;have c3:=SU.grow hH.2 hb;clear hb hH hbw)|(have hH:=And.intro (SU.cells HS.out.drew) HS.out.drew;have hbw:=SU.b hH.2;(with_reducible refine(HC1.out _ hH.2).mono ?_);rintro e w3 ⟨rfl,hb⟩;have c3:=SU.grow hH.2 hb;clear hb hH hbw)|(have hH:=(by assumption:_∧SU _ _ _ _ _ _);have hbw:=SU.b hH.2;(with_reducible refine(HC2.out _ hH.2).mono ?_);rintro e w3 ⟨rfl,hb⟩;have c4:=SU.grow hH.2 hb;clear hb hH hbw)|(have hH:=And.intro (SU.cells HS.out.drew) HS.out.drew;have hbw:=SU.b hH.2;(with_reducible refine(HC2.out _ hH.2).mono ?_);rintro e w3 ⟨rfl,hb⟩;have c4:=SU.grow hH.2 hb;clear hb hH hbw))|(go_at_call 8;first|(have hH:=(by assumption:_∧SU _ _ _ _ _ _);have hbw:=SU.b hH.2;(with_reducible refine(HBR.out _ hbw).mono ?_);rintro e w4 ⟨v,rfl,ho,hb⟩;obtain⟨A5,k5,rfl⟩:=ho.form;clear ho;have c5:=SU.grow hH.2 hb;clear hb hH hbw)|(have hH:=And.intro (SU.cells HS.out.drew) HS.out.drew;have hbw:=SU.b hH.2;(with_reducible refine(HBR.out _ hbw).mono ?_);rintro e w4 ⟨v,rfl,ho,hb⟩;obtain⟨A5,k5,rfl⟩:=ho.form;clear ho;have c5:=SU.grow hH.2 hb;clear hb hH hbw)))
  have hH:=(by assumption:_∧SU _ _ _ _ _ _)
  obtain⟨-,hs5⟩:=hH
  have h56:=SU.own5 hs5 c6.b.size
  obtain⟨a0,a1,a2,a3,a4,a5,a6,a7,a8,a9,a10⟩:=(SU.cells hs5).1
  have al5:=(SU.cells hs5).2
  generalize w2.alloc _=W3 at *
  have mlt5:=hs5.m.lt
  have llt5:=hs5.l.lt
  have HO5:=hide h56.1
  have HD5:=hide (HDK.out W3 hs5.b)
  have HS5:=hide hs5
  clear hs5 h56 c1 c2 c3 c4 c5 c6
  by_cases hdk:dk<0
  · have hge:¬ (0:Int)≤dk:=by omega
    rw[if_pos hdk,List.append_nil] at HSM
    clear a0 a1 a2 a3 a4 a5 a6 a7 a8 a9 a10 hdk
    go_wp2_with (go_at_call 30;refine HD5.out.mono ?_;rintro e w9 ⟨rfl,hb9⟩)
    go_ret
    obtain⟨A9,c9,e9,hst⟩:=(HO5.out.below hb9).form
    exact⟨A9,c9,by rw[HSM.out,← e9];rfl,by rw[HSM.out];exact hst,HS5.out.b.trans (hb9.mono HS5.out.b.size)⟩
  · have hge:(0:Int)≤dk:=by omega
    rw[if_neg hdk] at HSM
    have hc2:=HCC.out.resolve_left hdk
    have HDU2:=hide (fun W (hW:Below w.heap.size w W)=>HDU.out W hW hc2)
    clear hc2 hdk
    go_wp2_with (first
     | (go_at_call 30;refine HD5.out.mono ?_;rintro e w9 ⟨rfl,hb9⟩
        have hs9:=SU.grow HS5.out hb9
        have HO9:=hide (HO5.out.below hb9)
        clear a0 a1 a2 a3 a4 a5 a6 a7 a8 a9 a10 al5 mlt5 llt5
        obtain⟨⟨a0,a1,a2,a3,a4,a5,a6,a7,a8,a9,a10⟩,al5⟩:=SU.cells hs9
        have mlt5:=hs9.m.lt
        have llt5:=hs9.l.lt
        have HS9:=hide hs9
        clear hs9 hb9)
     | (go_at_call 9;refine(HDU2.out _ HS9.out.b).mono ?_;rintro e w10 ⟨A10,c10,rfl,-,hb10⟩
        have HO10:=hide (HO9.out.below hb10)
        have HB10:=hide (HS9.out.b.trans (hb10.mono HS9.out.b.size))
        clear hb10 a0 a1 a2 a3 a4 a5 a6 a7 a8 a9 a10 al5 mlt5 llt5)
     | (go_at_call 36;refine(HI3.out _ HB10.out).mono ?_;rintro e w11 ⟨rfl,hb11⟩
        have HO11:=hide (HO10.out.below hb11)
        have HB11:=hide (HB10.out.trans (hb11.mono HB10.out.size))
        clear hb11)
     | (at_builtin;refine D6 rfl _ _ rfl w.heap.size _ [(⟨#[101,118,101,110,116,115,32]⟩:ByteArray)++s0,(((⟨#[114,101,113,117,101,115,116,115,32]⟩:ByteArray)++s1)++(⟨#[44,32,97,110,115,119,101,114,115,32]⟩:ByteArray))++s2,(⟨#[99,111,110,102,105,103,117,114,97,116,105,111,110,115,32]⟩:ByteArray)++s3,(⟨#[111,117,116,99,111,109,101,32]⟩:ByteArray)++wd,(⟨#[98,114,101,97,99,104,101,115,32]⟩:ByteArray)++s4] rfl (HO11.out.alloc _) _ _ 1 [(⟨#[105,110,32,116,104,101,32,100,97,114,107,32]⟩:ByteArray)++s5] rfl (Strs.newRow2 w11 9 [(⟨#[105,110,32,116,104,101,32,100,97,114,107,32]⟩:ByteArray)++s5] rfl) (by simp) (by have:=HB11.out.size;simp;omega) ?_
        intro v12 w12 hO12 hg12 _
        have HB12:=hide (Below.ofGrown (HB11.out.alloc HB11.out.size _) hg12 (by have:=HB11.out.size;simp;omega) (fun k hk=>(HO11.out.lt k hk).1))
        have HO12:=hide hO12
        clear hO12 hg12))
    go_ret
    obtain⟨A9,c9,e9,hst⟩:=HO12.out.form
    exact⟨A9,c9,by rw[HSM.out,← e9];rfl,by rw[HSM.out];exact hst,HB12.out⟩
def Ub(w:World)(e:Ending)(w':World):Prop:=∃ A c,e=.returned (.slice A 5 c)∧Below w.heap.size w w'
theorem NK (h:MH) (m:AC) (l:List EvM) (A:Option Addr) (c:Nat) (w:World) (C:Jv w h m) (k1:m.rT.length≤h.rc) (k2:m.mT.length≤h.mc) (k3:m.lT.length≤h.lc) (ha:Asc w) (hpw:F7 w) (hv:Ab m=true)
    (hE:Rows BD 22 w w.heap.size A l) (hl:l.length≤60) (hold:∀ x∈l,x.old.length≤10) (hdk:BV l<0) :
    Calls Tryz.prog 11 #[.agg #[.slice h.s m.sT.length h.sc,.slice h.f m.fT.length h.fc,.slice h.r m.rT.length h.rc,.slice h.m m.mT.length h.mc,.slice h.l m.lT.length h.lc,.slice h.i m.iT.length h.ic,.int .i64 m.dT,.int .i64 m.oT,.int .i64 m.vT,.int .i64 m.aT,.slice h.u m.uT.length h.uc],.slice A l.length c] w (Ub w) :=
 (Ji h m l A c w C k1 k2 k3 ha hpw hv hE hl hold (.inl hdk)).mono fun e w' ⟨A',c',h1,_,h3⟩=>⟨A',c',by rw[h1,JE,if_pos hdk];rfl,h3⟩
theorem Gs {w:World} {h:MH} {m:AC} (d:MD w w.heap.size h m) (hv:Ab m=true):Jv w h m:=by
 obtain⟨s1,s2,s3,s4,s5,s6⟩:=Dh hv
 exact⟨d,⟨by omega,by omega,by omega,by omega⟩,fun x hx=>by have:=L6 (Ox hv hx);omega,by omega,fun y hy=>by have:=FI hv hy;omega,by omega⟩
def Ux(m:AC)(l:List EvM)(w:World)(e:Ending)(w':World):Prop:=∃ h A c,e=.returned (.tuple #[.agg #[.slice h.s m.sT.length h.sc,.slice h.f m.fT.length h.fc,.slice h.r m.rT.length h.rc,.slice h.m m.mT.length h.mc,.slice h.l m.lT.length h.lc,.slice h.i m.iT.length h.ic,.int .i64 m.dT,.int .i64 m.oT,.int .i64 m.vT,.int .i64 m.aT,.slice h.u m.uT.length h.uc],.slice A l.length c])∧MD w' w'.heap.size h m∧Rows BD 22 w' w'.heap.size A l∧m.rT.length≤h.rc∧m.mT.length≤h.mc∧m.lT.length≤h.lc∧Below w.heap.size w w'
theorem VA(w:World):Calls Tryz.prog 15 #[] w (Ux FW [KC] w):=Ql w
theorem QD {w:World} {A:Option Addr} {ps:List AA} {p0:AA} {u1 u2:AO} (h:Jz w A ps) (e:ps=[p0,[[u1,u2]]]) :
    ∃ b off g o c2 A4 c4,A=some ⟨b,off,none⟩∧b<w.heap.size∧g<w.heap.size∧w.cell? ⟨b,off+1,none⟩=some (.slice (some ⟨g,o,none⟩) 1 c2)∧w.cell? ⟨g,o,none⟩=some (.slice A4 2 c4):=by
 subst e
 obtain⟨b,off,A2,c2,hA,hb,hc,A3,c3,xs,e3,h1,h2,h3,h4,h5⟩:=h 1 (by simp)
 obtain⟨g,o,cur,e4,hB,hj⟩:=h4 (by simp)
 obtain⟨u,hu,A4,c4,e5,_⟩:=h5 0 (by simp)
 have hcu:=hj 0 u hu
 injection e3 with e6 e7 e8
 subst e6 e4 e5
 have hcell:w.cell? ⟨g,o,none⟩=some (.slice A4 2 c4):=by rw[hB.cell o];simpa using hcu
 exact⟨b,off,g,o,c2,A4,c4,hA,hb,hB.lt,hc,hcell⟩
theorem Ta (w:World) (x:CK):Jk (w.alloc (.cells #[.int .i64 x.1,.int .i64 x.2.1,.int .i64 x.2.2.1,.int .i64 x.2.2.2] 60)) (some ⟨w.heap.size,0,none⟩) [x]:=fun k hk=>by
 obtain rfl:k=0:=by simp at hk;omega
 have hB:=AB.new w 60 #[.int .i64 x.1,.int .i64 x.2.1,.int .i64 x.2.2.1,.int .i64 x.2.2.2]
 exact⟨_,_,rfl,by simp,hB.cell 0,hB.cell 1,hB.cell 2,hB.cell 3⟩
theorem O7 (m:AC) (l:List EvM) (p0:AA) (u1 u2:AO) (w:World) (ha:Asc w) (hpw:F7 w) (hx:Calls Tryz.prog 15 #[] w (Ux m l w)) (hv:Ab m=true) (hl:l.length≤40) (hold:∀ x∈l,x.old.length≤10)
    (hpl:Ay m l=[p0,[[u1,u2]]]) (hbk:CE m l=[(0,1,1,1)]) (hdk:BV l<0) :
    Calls Tryz.prog 5 #[] w (fun e w'=>e=.returned (.bool true)∧Below w.heap.size w w'):=by
 obtain⟨s1,s2,s3,s4,s5,s6⟩:=Dh hv
 have HX:=hide hx
 have HP:=hide (fun W h A c (hW:Below w.heap.size w W) (k1:m.rT.length≤h.rc) (k2:m.mT.length≤h.mc) (k3:m.lT.length≤h.lc) (d:MD W W.heap.size h m) (hE:Rows BD 22 W W.heap.size A l) =>
  Gi h m l A c W d k1 k2 k3 (ha.below (Nat.le_refl _) hW) hv hE (by omega) (by omega) (fun y hy=>by have:=FI hv hy;omega) (by omega) hold)
 have HBr:=hide (fun W h A c (hW:Below w.heap.size w W) (k1:m.rT.length≤h.rc) (k2:m.mT.length≤h.mc) (k3:m.lT.length≤h.lc) (d:MD W W.heap.size h m) (hE:Rows BD 22 W W.heap.size A l) =>
  IR h m l A c W (Gs d hv) k1 k2 k3 (ha.below (Nat.le_refl _) hW) hv hE (by omega) hold)
 have HSu:=hide (fun W h A c (hW:Below w.heap.size w W) (k1:m.rT.length≤h.rc) (k2:m.mT.length≤h.mc) (k3:m.lT.length≤h.lc) (d:MD W W.heap.size h m) (hE:Rows BD 22 W W.heap.size A l) =>
  NK h m l A c W (Gs d hv) k1 k2 k3 (ha.below (Nat.le_refl _) hW) (hpw.below (Nat.le_refl _) hW) hv hE (by omega) hold hdk)
 rw[hbk] at HBr
 rw[hpl] at HP
 clear hx ha hpw hv hold hpl hbk hdk s1 s2 s3 s4 s5 s6
 go_enter Tryz.func5,Tryz.ntmps5
 go_wp2_with (first
  | (go_at_call 15;refine HX.out.mono ?_;rintro e w1 ⟨h,A,c,rfl,hmd,hev,k1,k2,k3,hb1⟩
     have hM1:=AB.new w1 29 #[.slice h.s m.sT.length h.sc,.slice h.f m.fT.length h.fc,.slice h.r m.rT.length h.rc,.slice h.m m.mT.length h.mc,.slice h.l m.lT.length h.lc,.slice h.i m.iT.length h.ic,.int .i64 m.dT,.int .i64 m.oT,.int .i64 m.vT,.int .i64 m.aT,.slice h.u m.uT.length h.uc]
     have hb1a:=(Below.refl w1.heap.size w1).alloc (Nat.le_refl _) (.cells #[.slice h.s m.sT.length h.sc,.slice h.f m.fT.length h.fc,.slice h.r m.rT.length h.rc,.slice h.m m.mT.length h.mc,.slice h.l m.lT.length h.lc,.slice h.i m.iT.length h.ic,.int .i64 m.dT,.int .i64 m.oT,.int .i64 m.vT,.int .i64 m.aT,.slice h.u m.uT.length h.uc] 29)
     have HK:=hide (And.intro k1 (And.intro k2 k3))
     have HM1:=hide hM1
     have HB1:=hide (hb1.trans (hb1a.mono hb1.size))
     have HD1:=hide (And.intro (hmd.grow hb1a) (hev.grow hb1a))
     have HPc:=hide (HP.out _ h A c HB1.out k1 k2 k3 HD1.out.1 HD1.out.2)
     clear hmd hev k1 k2 k3 hb1 hM1 hb1a)
  | (go_at_call 7;refine HPc.out.mono ?_;rintro e w3 ⟨A3,c3,rfl,hc3,hc4,hps,hb3⟩
     obtain⟨b,off,g,o,c2,A4,c5,hA3,hlb,hlg,y0,y1⟩:=QD hps rfl
     subst hA3
     have hM3:=HM1.out.below hb3 (by simp)
     obtain⟨a0,a1,a2,a3,a4,a5,a6,a7,a8,a9,a10⟩:=MB.cells hM3
     have lt3:=hM3.lt
     have HM3:=hide hM3
     have HB3:=hide (HB1.out.trans (hb3.mono HB1.out.size))
     have HD3:=hide (And.intro (HD1.out.1.grow hb3) (HD1.out.2.grow hb3))
     have HBc:=hide (HBr.out _ h A c HB3.out HK.out.1 HK.out.2.1 HK.out.2.2 HD3.out.1 HD3.out.2)
     clear hps hb3 hM3)
  | (go_at_call 8;refine HBc.out.mono ?_;rintro e w4 ⟨v4,rfl,ho4,hb4⟩
     obtain⟨A6,c6,rfl,hrd⟩:=ho4.rd
     have hb5:=(Below.refl w4.heap.size w4).alloc (Nat.le_refl _) (.cells #[.int .i64 0,.int .i64 1,.int .i64 1,.int .i64 1] 60)
     have hM5:=(HM3.out.below hb4 HM3.out.lt).below hb5 (HM3.out.below hb4 HM3.out.lt).lt
     have lt5:=hM5.lt
     have HM5:=hide hM5
     have HB4:=hide (HB3.out.trans (hb4.mono HB3.out.size))
     have HB5:=hide (HB4.out.trans (hb5.mono HB4.out.size))
     have HD5:=hide (And.intro ((HD3.out.1.grow hb4).grow hb5) ((HD3.out.2.grow hb4).grow hb5))
     have HSa:=hide (fun cc=>OW A6 (some ⟨w4.heap.size,0,none⟩) c6 cc [(0,1,1,1)] _ (hrd.grow hb5) (Ta w4 (0,1,1,1)) (by decide))
     clear ho4 hb4 hb5 hM5 hrd y0 y1 hlb hlg a0 a1 a2 a3 a4 a5 a6 a7 a8 a9 a10)
  | (go_at_call 16;refine(HSa.out _).mono ?_;rintro e w6 ⟨rfl,hb6⟩
     have hM6:=HM5.out.below hb6 (by simpa using lt5)
     obtain⟨a0,a1,a2,a3,a4,a5,a6,a7,a8,a9,a10⟩:=MB.cells hM6
     have lt6:=hM6.lt
     have HB6:=hide (HB5.out.trans (hb6.mono HB5.out.size))
     have HSc:=hide (HSu.out _ h A c HB6.out HK.out.1 HK.out.2.1 HK.out.2.2 (HD5.out.1.grow hb6) (HD5.out.2.grow hb6))
     clear hb6 hM6)
  | (go_at_call 11;refine HSc.out.mono ?_;rintro e w7 ⟨A7,c7,rfl,hb7⟩
     have HB7:=hide (HB6.out.trans (hb7.mono HB6.out.size))
     clear hb7))
 go_ret
 exact⟨rfl,HB7.out⟩
theorem Ka (w:World) (ha:Asc w) (hpw:F7 w):Calls Tryz.prog 5 #[] w (fun e w'=>e=.returned (.bool true)∧Below w.heap.size w w') :=
 O7 FW [KC] _ _ _ w ha hpw (VA w) Rk (by decide) (by decide) Qk Qj TK
end Go.Proofs.YtfemlajeomohhaaGreatDoor
