/- A part of the claim: see its last text. -/
import Derived.Test.YtfemlajeomohhaaGreatDoorUK30
import Derived.Test.YtfemlajeomohhaaGreatDoorUK41
import Derived.Test.YtfemlajeomohhaaGreatDoorUK43

set_option maxRecDepth 100000
set_option maxHeartbeats 16000000
namespace Go.Proofs.YtfemlajeomohhaaGreatDoor
open Go Go.RowKit Go.Proofs
theorem Oc (A1 A2:Option Addr) (c1 c2:Nat) (l:List ByteArray) (w:World) (h1:Strs w w.heap.size A1 l) (h2:Strs w w.heap.size A2 l) (hl:l.length≤9223372036854775807) :
    Calls Tryz.prog 13 #[.slice A1 l.length c1,.slice A2 l.length c2] w fun e w'=>e=.returned (.bool true)∧Below w.heap.size w w':=by
 have hne2:((l.length:Int) != (l.length:Int))=false:=by simp
 go_enter Tryz.func13,Tryz.ntmps13
 go_wp2_with fail
 go_loopw [5] (fun i wr=>∃ k:Nat,k≤l.length∧i=.int .i64 k∧Below w.heap.size w wr) (fun i _=>l.length - (intOf i).toNat)
 case atStart=>exact⟨0,Nat.zero_le _,rfl,Below.refl _ _⟩
 case round =>
  obtain⟨k,hk,rfl,hbr⟩:=hrel
  by_cases hlt:k<l.length
  · have hltI:(k:Int)<(l.length:Int):=by omega
    obtain⟨ad1,rfl,hb1,x0⟩:=(h1.below hbr).at_ hlt
    obtain⟨ad2,rfl,hb2,y0⟩:=(h2.below hbr).at_ hlt
    have hq:=Gq (show l[k]=l[k] from rfl)
    go_wp2_with fail
    go_quiet (fail)
    go_wp2_with fail
    go_roundw
    case rel=>exact⟨k+1,by omega,by go_num,AY hbr _⟩
    case measure=>simp[intOf];omega
  · go_wp2_with fail
    go_ret
    exact⟨rfl,hbr⟩
theorem ER(m:Nat):Lib.itoa (m:Int)=Lib.decDigits m:=Lib.itoa_nonneg m
theorem PE (m:Nat) (h:m≤9223372036854775807):(Lib.decDigits m).length≤21:=by
 rw[← ER];exact Lib.itoa_length_le _ (by omega) (by omega)
theorem Ng {m:Nat} (h:¬ m<10):Lib.decDigits m=Lib.decDigits (m / 10) ++ [UInt8.ofNat (48+m % 10)]:=by
 rw[Lib.decDigits,dif_neg h]
theorem Nf {m:Nat} (h:m<10):Lib.decDigits m=[UInt8.ofNat (48+m)]:=by
 rw[Lib.decDigits,dif_pos h]
def J6(c:Int):ByteArray:=S [UInt8.ofNat c.toNat]
theorem Mg(c:Int):(J6 c).size≤1:=Nat.le_refl _
theorem Jg (W:World) (b:Nat) (c:Int) (h0:0≤c) (h1:c<256) (hc:W.cell? ⟨b,0,none⟩=some (.int .u8 c)) :
    (convert 126 9 (.slice (some ⟨b,0,none⟩) 1 1)).run Tryz.prog W=.ok (.string (J6 c)) W:=by
 have e:((UInt8.ofNat c.toNat).toNat:Int)=c:=by rw[UInt8.toNat_ofNat'];omega
 exact run_convert_bytes_back (P:=Tryz.prog) _ 126 9 5 ⟨b,0,none⟩ 1 [UInt8.ofNat c.toNat] Tryz.underlying126 Tryz.underlying5 Tryz.underlying9 (fun j hj=>by
  obtain rfl:j=0:=by simp at hj;omega
  rw[BA]
  simp only[List.getElem_cons_zero]
  rw[e];exact hc)
theorem Gl (W:World) (c:Int) (h0:0≤c) (h1:c<256) :
    (convert 126 9 (.slice (some ⟨W.heap.size,0,none⟩) 1 1)).run Tryz.prog (W.alloc (.cells #[.int .u8 c] 5))=.ok (.string (J6 c)) (W.alloc (.cells #[.int .u8 c] 5)):=by
 have e:((UInt8.ofNat c.toNat).toNat:Int)=c:=by rw[UInt8.toNat_ofNat'];omega
 exact run_convert_bytes_back (P:=Tryz.prog) _ 126 9 5 ⟨W.heap.size,0,none⟩ 1 [UInt8.ofNat c.toNat] Tryz.underlying126 Tryz.underlying5 Tryz.underlying9 (fun j hj=>by
  obtain rfl:j=0:=by simp at hj;omega
  rw[BA,CZ]
  simp only[List.getElem_cons_zero]
  rw[e];rfl)
theorem Qc{m:Nat}:J6 (48+(m:Int) % 10)=S [UInt8.ofNat (48+m % 10)]:=rfl
theorem Re{m:Nat}:J6 (48+(m:Int))=S [UInt8.ofNat (48+m)]:=rfl
theorem M5 (m:Nat) (w:World) (hlt:m<10):Calls Tryz.prog 39 #[.int .i64 (m:Int)] w fun e w'=>e=.returned (.string (BO (m:Int)))∧Below w.heap.size w w':=by
 have hc:=Gl w (48+(m:Int)) (by omega) (by omega)
 have hz:=Mg (48+(m:Int))
 have HI:=hide (show BO (m:Int)=J6 (48+(m:Int)) by rw[BO,ER,Nf hlt,Re])
 go_enter Tryz.func39,Tryz.ntmps39
 go_wp2_with fail
 go_ret
 exact⟨AJ (by rw[HI.out];rfl),(Below.refl _ w).alloc (Nat.le_refl _) _⟩
theorem Pd (m:Nat) (w:World) (hlt:¬ m<10) (hm:m≤9223372036854775807)
    (hr:∀ W,Calls Tryz.prog 39 #[.int .i64 ((m:Int) / 10)] W fun e w'=>e=.returned (.string (BO ((m / 10:Nat):Int)))∧Below W.heap.size W w') :
    Calls Tryz.prog 39 #[.int .i64 (m:Int)] w fun e w'=>e=.returned (.string (BO (m:Int)))∧Below w.heap.size w w':=by
 obtain⟨s,hs⟩:∃ s,s=BO ((m / 10:Nat):Int):=⟨_,rfl⟩
 have zs:s.size≤21:=by rw[hs,BO,ER];exact PE _ (by omega)
 have HI:=hide (show BO (m:Int)=s++J6 (48+(m:Int) % 10) by rw[hs,BO,BO,ER,ER,Ng hlt,RP,Qc])
 rw[← hs] at hr
 have HR:=hide hr
 have hz:=Mg (48+(m:Int) % 10)
 have hq:∀ W,(Op.stringOp .add s (J6 (48+(m:Int) % 10))).run Tryz.prog W=.ok (.string (s++J6 (48+(m:Int) % 10))) W:=fun W=>run_string_add_sum W _ _ (by omega)
 have HC:=hide (fun W=>Gl W (48+(m:Int) % 10) (by omega) (by omega))
 have g0:(m:Int).tmod 10=(m:Int) % 10:=Int.tmod_eq_emod_of_nonneg (by omega)
 have g1:IntKind.i64.wrap ((m:Int) / 10)=(m:Int) / 10:=IntWalk.i64_in _ (by omega)
 have g2:IntKind.i64.wrap ((m:Int) % 10)=(m:Int) % 10:=IntWalk.i64_in _ (by omega)
 have g3:IntKind.i64.wrap (48+(m:Int) % 10)=48+(m:Int) % 10:=IntWalk.i64_in _ (by omega)
 have g4:IntKind.u8.wrap (48+(m:Int) % 10)=48+(m:Int) % 10:=by rw[IntKind.wrap_u8];omega
 clear hs hr
 go_enter Tryz.func39,Tryz.ntmps39
 go_wp2_with fail
 have hz1:=(Below.refl w.heap.size w).alloc (Nat.le_refl _) (.cells #[.int .u8 (48+(m:Int) % 10)] 5)
 have hcl:(w.alloc (.cells #[.int .u8 (48+(m:Int) % 10)] 5)).drew.cell? ⟨w.heap.size,0,none⟩=some (.int .u8 (48+(m:Int) % 10)):=(AB.new w 5 #[.int .u8 (48+(m:Int) % 10)]).drew.cell 0
 have hc0:=Jg (w.alloc (.cells #[.int .u8 (48+(m:Int) % 10)] 5)).drew w.heap.size _ (by omega) (by omega) hcl
 have HZ:=hide hz1
 have HCL:=hide hcl
 clear hz1 hcl
 go_region_with (first
  | (go_at_call 39;refine(HR.out w.drew).mono ?_;rintro e w1 ⟨rfl,hb1⟩;have hc:=HC.out w1;have HB1:=hide (show Below w.heap.size w w1 from(Below.refl _ w).drew.trans hb1);clear hb1)
  | (go_at_call 39;refine(HR.out (w.alloc (.cells #[.int .u8 (48+(m:Int) % 10)] 5)).drew).mono ?_;rintro e w1 ⟨rfl,hb1⟩;have HB1:=hide (show Below w.heap.size w w1 from HZ.out.drew.trans (hb1.mono HZ.out.size));have hc:=Jg w1 w.heap.size _ (by omega) (by omega) ((hb1.cell (by simp)).trans HCL.out);clear hb1))
 all_goals
  go_wp2_with fail
  go_ret
  exact⟨AJ (by rw[HI.out];rfl),by first|exact HB1.out|exact HB1.out.alloc HB1.out.size _⟩
theorem Ed (m:Nat) (hm:m≤9223372036854775807):∀ (w:World),Calls Tryz.prog 39 #[.int .i64 (m:Int)] w fun e w'=>e=.returned (.string (BO (m:Int)))∧Below w.heap.size w w':=by
 induction m using Nat.strongRecOn with
 | ind m ih =>
   intro w
   by_cases hlt:m<10
   · exact M5 m w hlt
   · have e:((m / 10:Nat):Int)=(m:Int) / 10:=by omega
     have hi:=ih (m / 10) (by omega) (by omega)
     refine Pd m w hlt hm fun W=>?_
     have h2:=hi W
     rw[e] at h2 ⊢
     exact h2
theorem RZ (h:MH) (m:AC) (l:List EvM) (A:Option Addr) (c:Nat) (w:World) (hE:Rows BD 22 w w.heap.size A l) (hl:l.length≤60) (hdk:BV l<0) :
    Calls Tryz.prog 43 #[.agg #[.slice h.s m.sT.length h.sc,.slice h.f m.fT.length h.fc,.slice h.r m.rT.length h.rc,.slice h.m m.mT.length h.mc,.slice h.l m.lT.length h.lc,.slice h.i m.iT.length h.ic,.int .i64 m.dT,.int .i64 m.oT,.int .i64 m.vT,.int .i64 m.aT,.slice h.u m.uT.length h.uc],.slice A l.length c] w (JF w []):=by
 have hb:=((Below.refl w.heap.size w).alloc (Nat.le_refl _) (.cells #[.slice h.s m.sT.length h.sc,.slice h.f m.fT.length h.fc,.slice h.r m.rT.length h.rc,.slice h.m m.mT.length h.mc,.slice h.l m.lT.length h.lc,.slice h.i m.iT.length h.ic,.int .i64 m.dT,.int .i64 m.oT,.int .i64 m.vT,.int .i64 m.aT,.slice h.u m.uT.length h.uc] 29)).alloc (by simp) (.cells #[] 75)
 have HDA:=hide (Gx A c l _ (by omega) (hE.grow hb))
 have HB:=hide hb
 obtain⟨dk,hdk2⟩:∃ dk,dk=BV l:=⟨_,rfl⟩
 rw[← hdk2] at HDA hdk
 clear hb hE hdk2
 go_enter Tryz.func43,Tryz.ntmps43
 go_wp2_with (go_at_call 42;refine HDA.out.mono ?_;rintro e w1 ⟨rfl,rfl⟩)
 go_ret
 exact⟨_,_,rfl,fun k hk=>absurd hk (by simp),HB.out⟩
theorem Rb (h:MH) (m:AC) (l:List EvM) (A:Option Addr) (c:Nat) (w:World) (d:MD w w.heap.size h m) (hv:Ab m=true)
    (hE:Rows BD 22 w w.heap.size A l) (hl:l.length≤60) (hlc:l.length≤c) (hcm:c≤9223372036854775807) (hold:∀ x∈l,x.old.length≤10) :
    Calls Tryz.prog 43 #[.agg #[.slice h.s m.sT.length h.sc,.slice h.f m.fT.length h.fc,.slice h.r m.rT.length h.rc,.slice h.m m.mT.length h.mc,.slice h.l m.lT.length h.lc,.slice h.i m.iT.length h.ic,.int .i64 m.dT,.int .i64 m.oT,.int .i64 m.vT,.int .i64 m.aT,.slice h.u m.uT.length h.uc],.slice A l.length c] w (JF w (EH m l)):=by
 unfold EH
 by_cases hd:BV l<0
 · rw[if_pos hd];exact RZ h m l A c w hE hl hd
 · rw[if_neg hd]
   obtain⟨h1,h2⟩:=Im (p:=fun x:EvM=>decide (x.kind=5)) (l:=l) (by unfold BV at hd;omega)
   exact Qa h m l _ A c w d hv hE hl hlc hcm hold h1 h2
theorem Ig (kd:Int) (A:Option Addr) (c:Nat) (l:List EvM) (w:World) (hl:l.length≤1000) (h:Rows BD 22 w w.heap.size A l) :
    Calls Tryz.prog 40 #[.slice A l.length c,.int .i64 kd] w (Br w (.int .i64 (Ao kd l))):=by
 have HE:=hide h
 clear h
 go_enter Tryz.func40,Tryz.ntmps40
 go_wp2_with fail
 go_loop [5,6] (fun v i=>∃ k:Nat,k≤l.length∧i=.int .i64 k∧v=.int .i64 (Ao kd (l.take k))) (fun _ i=>l.length - (intOf i).toNat)
 case atStart=>exact⟨0,Nat.zero_le _,rfl,rfl⟩
 case round =>
  obtain⟨k,hk,rfl,rfl⟩:=hrel
  by_cases hlt:k<l.length
  · obtain ⟨x,hx⟩:∃ x,l[k]=x:=⟨_,rfl⟩
    obtain⟨b,off,j,hA,hb,_,_,_,hc⟩:=HE.out.ev hlt hx
    have x0:w.cell? ⟨b,off+k*22,none⟩=some (.int .i64 x.kind):=hc 0 _ rfl
    subst hA
    have HS:=hide (JY kd l hlt)
    rw[hx] at HS
    obtain⟨n,hn⟩:∃ n,n=Ao kd (l.take k):=⟨_,rfl⟩
    have hn1:n≤1000:=by rw[hn];unfold Ao;have:=List.length_filter_le (fun x:EvM=>decide (x.kind=kd)) (l.take k);simp at this;omega
    rw[← hn] at HS ⊢
    clear hc hx hn
    by_cases hkd:x.kind=kd
    · rw[if_pos hkd] at HS
      have hke:(x.kind == kd)=true:=by simpa using hkd
      clear hkd
      go_wp2_with fail
      go_round
      case rel=>exact⟨k+1,by omega,by go_num,by rw[HS.out];go_num⟩
      case measure=>simp[intOf];omega
    · rw[if_neg hkd,Nat.add_zero] at HS
      have hke:(x.kind == kd)=false:=by simpa using hkd
      clear hkd
      go_wp2_with fail
      go_round
      case rel=>exact⟨k+1,by omega,by go_num,by rw[HS.out];rfl⟩
      case measure=>simp[intOf];omega
  · obtain rfl:k=l.length:=by omega
    rw[List.take_length]
    go_wp2_with fail
    go_ret
    exact⟨rfl,Below.refl _ _⟩
theorem MS.own5 {w:World} {M:Array Value} {w2:World} {a1 a2 a3 a4 a5:ByteArray} (s:MS w M (w2.alloc (.cells #[.string a1,.string a2,.string a3,.string a4,.string a5] 9))) (h2:w.heap.size≤w2.heap.size) :
    BI w.heap.size (w2.alloc (.cells #[.string a1,.string a2,.string a3,.string a4,.string a5] 9)) (.slice (some ⟨w2.heap.size,0,none⟩) 5 5) [a1,a2,a3,a4,a5]∧Below w.heap.size w (w2.alloc (.cells #[.string a1,.string a2,.string a3,.string a4,.string a5] 9)) :=
 ⟨BI.new w2 [a1,a2,a3,a4,a5] h2 (show 5≤maxLen by decide),s.b⟩
theorem MS.alloc{w:World}{M:Array Value}{W:World}(s:MS w M W){o:Obj}:MS w M (W.alloc o):=s.grow ((Below.refl _ _).alloc (Nat.le_refl _) _)
theorem Ob (h:MH) (m:AC) (l:List EvM) (A:Option Addr) (c:Nat) (w:World) (C:Jv w h m) (hv:Ab m=true)
    (hE:Rows BD 22 w w.heap.size A l) (hl:l.length≤60) (hold:∀ x∈l,x.old.length≤10) (hcc:l.length≤c∧c≤9223372036854775807) :
    Calls Tryz.prog 14 #[.agg #[.slice h.s m.sT.length h.sc,.slice h.f m.fT.length h.fc,.slice h.r m.rT.length h.rc,.slice h.m m.mT.length h.mc,.slice h.l m.lT.length h.lc,.slice h.i m.iT.length h.ic,.int .i64 m.dT,.int .i64 m.oT,.int .i64 m.vT,.int .i64 m.aT,.slice h.u m.uT.length h.uc],.slice A l.length c] w (Tu w (JE m l)):=by
 have hb:=(Below.refl w.heap.size w).alloc (Nat.le_refl _) (.cells #[.slice h.s m.sT.length h.sc,.slice h.f m.fT.length h.fc,.slice h.r m.rT.length h.rc,.slice h.m m.mT.length h.mc,.slice h.l m.lT.length h.lc,.slice h.i m.iT.length h.ic,.int .i64 m.dT,.int .i64 m.oT,.int .i64 m.vT,.int .i64 m.aT,.slice h.u m.uT.length h.uc] 29)
 have HS:=hide (MS.mk (AB.new w 29 #[.slice h.s m.sT.length h.sc,.slice h.f m.fT.length h.fc,.slice h.r m.rT.length h.rc,.slice h.m m.mT.length h.mc,.slice h.l m.lT.length h.lc,.slice h.i m.iT.length h.ic,.int .i64 m.dT,.int .i64 m.oT,.int .i64 m.vT,.int .i64 m.aT,.slice h.u m.uT.length h.uc]) hb)
 have HOC:=hide (OL A c l _ (by omega) (hE.grow hb))
 have HDK:=hide (fun W (hW:Below w.heap.size w W)=>Gx A c l W (by omega) (hE.grow hW))
 have HBR:=hide (fun W (hW:Below w.heap.size w W)=>Ma h m l A c W ⟨C.d.grow hW,C.f,C.il,C.il2,C.on,C.rl⟩ hv (hE.grow hW) hl hold)
 have HDU:=hide (fun W (hW:Below w.heap.size w W)=>Rb h m l A c W (C.d.grow hW) hv (hE.grow hW) hl hcc.1 hcc.2 hold)
 have hbl:(CE m l).length≤60*100:=Nat.le_trans (Dp m l l.length) (Nat.mul_le_mul hl C.rl)
 have hdl:=LG hv hl hold
 obtain⟨s0,hs0⟩:∃ s,s=BO (l.length:Int):=⟨_,rfl⟩
 have z0:s0.size≤21:=by rw[hs0];exact C9 (by omega) (by omega)
 obtain⟨s4,hs4⟩:∃ s,s=BO ((CE m l).length:Int):=⟨_,rfl⟩
 have z4:s4.size≤21:=by rw[hs4];exact C9 (by omega) (by omega)
 obtain⟨s5,hs5⟩:∃ s,s=BO ((EH m l).length:Int):=⟨_,rfl⟩
 have z5:s5.size≤21:=by rw[hs5];exact C9 (by omega) (by omega)
 have HI1:=hide (Ed l.length (by omega))
 have HI2:=hide (Ed (CE m l).length (by omega))
 have HI3:=hide (Ed (EH m l).length (by omega))
 rw[← hs0] at HI1
 rw[← hs4] at HI2
 rw[← hs5] at HI3
 have hk0:Ao 0 l≤60:=by unfold Ao;have:=List.length_filter_le (fun x:EvM=>decide (x.kind=0)) l;omega
 obtain⟨s1,hs1⟩:∃ s,s=BO (Ao 0 l:Int):=⟨_,rfl⟩
 have z1:s1.size≤21:=by rw[hs1];exact C9 (by omega) (by omega)
 have HC0:=hide (fun W (hW:Below w.heap.size w W)=>Ig 0 A c l W (by omega) (hE.grow hW))
 have HN0:=hide (Ed (Ao 0 l) (by omega))
 rw[← hs1] at HN0
 obtain⟨n0,hn0⟩:∃ n,n=Ao 0 l:=⟨_,rfl⟩
 rw[← hn0] at HC0 HN0
 have hk1:Ao 1 l≤60:=by unfold Ao;have:=List.length_filter_le (fun x:EvM=>decide (x.kind=1)) l;omega
 obtain⟨s2,hs2⟩:∃ s,s=BO (Ao 1 l:Int):=⟨_,rfl⟩
 have z2:s2.size≤21:=by rw[hs2];exact C9 (by omega) (by omega)
 have HC1:=hide (fun W (hW:Below w.heap.size w W)=>Ig 1 A c l W (by omega) (hE.grow hW))
 have HN1:=hide (Ed (Ao 1 l) (by omega))
 rw[← hs2] at HN1
 obtain⟨n1,hn1⟩:∃ n,n=Ao 1 l:=⟨_,rfl⟩
 rw[← hn1] at HC1 HN1
 have hk2:Ao 2 l≤60:=by unfold Ao;have:=List.length_filter_le (fun x:EvM=>decide (x.kind=2)) l;omega
 obtain⟨s3,hs3⟩:∃ s,s=BO (Ao 2 l:Int):=⟨_,rfl⟩
 have z3:s3.size≤21:=by rw[hs3];exact C9 (by omega) (by omega)
 have HC2:=hide (fun W (hW:Below w.heap.size w W)=>Ig 2 A c l W (by omega) (hE.grow hW))
 have HN2:=hide (Ed (Ao 2 l) (by omega))
 rw[← hs3] at HN2
 obtain⟨n2,hn2⟩:∃ n,n=Ao 2 l:=⟨_,rfl⟩
 rw[← hn2] at HC2 HN2
 obtain⟨wd,hwd⟩:∃ wd,wd=FU (Bh l).1:=⟨_,rfl⟩
 have zo:wd.size≤10:=by rw[hwd];exact KY _
 have HSM:=hide (show JE m l=[(⟨#[101,118,101,110,116,115,32]⟩:ByteArray)++s0,(((⟨#[114,101,113,117,101,115,116,115,32]⟩:ByteArray)++s1)++(⟨#[44,32,97,110,115,119,101,114,115,32]⟩:ByteArray))++s2,(⟨#[99,111,110,102,105,103,117,114,97,116,105,111,110,115,32]⟩:ByteArray)++s3,(⟨#[111,117,116,99,111,109,101,32]⟩:ByteArray)++wd,(⟨#[98,114,101,97,99,104,101,115,32]⟩:ByteArray)++s4]++if BV l<0 then [] else [(⟨#[105,110,32,116,104,101,32,100,97,114,107,32]⟩:ByteArray)++s5] by rw[hs0,hs1,hs2,hs3,hwd,hs4,hs5];rfl)
 obtain⟨ds,hds⟩:∃ ds,ds=EH m l:=⟨_,rfl⟩
 rw[← hds] at HDU HI3
 obtain⟨bs,hbs⟩:∃ bs,bs=CE m l:=⟨_,rfl⟩
 rw[← hbs] at HBR HI2
 clear hs0 hs1 hs2 hs3 hs4 hs5 hk0 hk1 hk2 hds hdl hn0 hn1 hn2 hbs hb
 have y0_:(⟨#[101,118,101,110,116,115,32]⟩:ByteArray).size≤7:=Nat.le_refl _
 have y1_:(⟨#[114,101,113,117,101,115,116,115,32]⟩:ByteArray).size≤9:=Nat.le_refl _
 have y2_:(⟨#[44,32,97,110,115,119,101,114,115,32]⟩:ByteArray).size≤10:=Nat.le_refl _
 have y3_:(⟨#[99,111,110,102,105,103,117,114,97,116,105,111,110,115,32]⟩:ByteArray).size≤15:=Nat.le_refl _
 have yo_:(⟨#[111,117,116,99,111,109,101,32]⟩:ByteArray).size≤8:=Nat.le_refl _
 have y4_:(⟨#[98,114,101,97,99,104,101,115,32]⟩:ByteArray).size≤9:=Nat.le_refl _
 have y5_:(⟨#[105,110,32,116,104,101,32,100,97,114,107,32]⟩:ByteArray).size≤12:=Nat.le_refl _
 have q0:∀ W,(Op.stringOp .add (⟨#[101,118,101,110,116,115,32]⟩:ByteArray) s0).run Tryz.prog W=.ok (.string ((⟨#[101,118,101,110,116,115,32]⟩:ByteArray)++s0)) W:=fun W=>run_string_add_sum W _ _ (by first|omega|(simp only[ByteArray.size_append];omega))
 have q1:∀ W,(Op.stringOp .add (⟨#[114,101,113,117,101,115,116,115,32]⟩:ByteArray) s1).run Tryz.prog W=.ok (.string ((⟨#[114,101,113,117,101,115,116,115,32]⟩:ByteArray)++s1)) W:=fun W=>run_string_add_sum W _ _ (by first|omega|(simp only[ByteArray.size_append];omega))
 have q2:∀ W,(Op.stringOp .add ((⟨#[114,101,113,117,101,115,116,115,32]⟩:ByteArray)++s1) (⟨#[44,32,97,110,115,119,101,114,115,32]⟩:ByteArray)).run Tryz.prog W=.ok (.string (((⟨#[114,101,113,117,101,115,116,115,32]⟩:ByteArray)++s1)++(⟨#[44,32,97,110,115,119,101,114,115,32]⟩:ByteArray))) W:=fun W=>run_string_add_sum W _ _ (by first|omega|(simp only[ByteArray.size_append];omega))
 have q3:∀ W,(Op.stringOp .add ((⟨#[114,101,113,117,101,115,116,115,32]⟩:ByteArray)++s1++(⟨#[44,32,97,110,115,119,101,114,115,32]⟩:ByteArray)) s2).run Tryz.prog W=.ok (.string (((⟨#[114,101,113,117,101,115,116,115,32]⟩:ByteArray)++s1++(⟨#[44,32,97,110,115,119,101,114,115,32]⟩:ByteArray))++s2)) W:=fun W=>run_string_add_sum W _ _ (by first|omega|(simp only[ByteArray.size_append];omega))
 have q4:∀ W,(Op.stringOp .add (⟨#[99,111,110,102,105,103,117,114,97,116,105,111,110,115,32]⟩:ByteArray) s3).run Tryz.prog W=.ok (.string ((⟨#[99,111,110,102,105,103,117,114,97,116,105,111,110,115,32]⟩:ByteArray)++s3)) W:=fun W=>run_string_add_sum W _ _ (by first|omega|(simp only[ByteArray.size_append];omega))
 have qo:∀ W,(Op.stringOp .add (⟨#[111,117,116,99,111,109,101,32]⟩:ByteArray) wd).run Tryz.prog W=.ok (.string ((⟨#[111,117,116,99,111,109,101,32]⟩:ByteArray)++wd)) W:=fun W=>run_string_add_sum W _ _ (by first|omega|(simp only[ByteArray.size_append];omega))
 have q5:∀ W,(Op.stringOp .add (⟨#[98,114,101,97,99,104,101,115,32]⟩:ByteArray) s4).run Tryz.prog W=.ok (.string ((⟨#[98,114,101,97,99,104,101,115,32]⟩:ByteArray)++s4)) W:=fun W=>run_string_add_sum W _ _ (by first|omega|(simp only[ByteArray.size_append];omega))
 have q6:∀ W,(Op.stringOp .add (⟨#[105,110,32,116,104,101,32,100,97,114,107,32]⟩:ByteArray) s5).run Tryz.prog W=.ok (.string ((⟨#[105,110,32,116,104,101,32,100,97,114,107,32]⟩:ByteArray)++s5)) W:=fun W=>run_string_add_sum W _ _ (by first|omega|(simp only[ByteArray.size_append];omega))
 obtain⟨dk,hdk2⟩:∃ dk,dk=BV l:=⟨_,rfl⟩
 rw[← hdk2] at HDK HSM
 clear C hv hE hold hdk2 hbl z0 z1 z2 z3 z4 z5 zo y0_ y1_ y2_ y3_ yo_ y4_ y5_ hcc
 obtain⟨qa,qb,hq⟩:∃ qa qb,Bh l=(qa,qb):=⟨_,_,rfl⟩
 simp only[hq] at HOC hwd
 have HWD:=hide hwd
 clear hq hwd
 go_enter Tryz.func14,Tryz.ntmps14
 go_upto_if 15 with(go_at_call 38;refine HOC.out.mono ?_;rintro e w2 ⟨rfl,rfl⟩)
 go_cut [7] from 14 to 15 (fun u wx=>u=.string (if qa=1 then(⟨#[101,118,97,99,117,97,116,101,100]⟩:ByteArray) else(⟨#[119,111,114,107,105,110,103]⟩:ByteArray))∧MS w #[.slice h.s m.sT.length h.sc,.slice h.f m.fT.length h.fc,.slice h.r m.rT.length h.rc,.slice h.m m.mT.length h.mc,.slice h.l m.lT.length h.lc,.slice h.i m.iT.length h.ic,.int .i64 m.dT,.int .i64 m.oT,.int .i64 m.vT,.int .i64 m.aT,.slice h.u m.uT.length h.uc] wx)
 case first =>
  by_cases e1:qa=1
  · subst e1
    go_wp2_with fail
    go_meet
    case rel=>exact⟨by simp,HS.out⟩
  · have e1b:(qa == 1)=false:=by simpa using e1
    have HE1:=hide e1
    clear e1
    go_wp2_with fail
    go_meet
    case rel=>exact⟨by have:=HE1.out;simp[this],HS.out⟩
 case rest =>
  obtain⟨hu,hs⟩:=hcut
  clear HS
  have HS:=hide hs
  clear hs
  obtain⟨w0,hw0⟩:∃ w0,w0=(if qa=1 then(⟨#[101,118,97,99,117,97,116,101,100]⟩:ByteArray) else(⟨#[119,111,114,107,105,110,103]⟩:ByteArray)):=⟨_,rfl⟩
  rw[← hw0] at hu
  have HW0:=hide hw0
  subst hu
  clear hw0
  go_upto_if 17 with fail
  go_cut [7] from 16 to 17 (fun u wx=>u=.string wd∧MS w #[.slice h.s m.sT.length h.sc,.slice h.f m.fT.length h.fc,.slice h.r m.rT.length h.rc,.slice h.m m.mT.length h.mc,.slice h.l m.lT.length h.lc,.slice h.i m.iT.length h.ic,.int .i64 m.dT,.int .i64 m.oT,.int .i64 m.vT,.int .i64 m.aT,.slice h.u m.uT.length h.uc] wx)
  case first =>
   by_cases e2:qa=2
   · have HW2:=hide (show wd=(⟨#[105,109,112,111,115,115,105,98,108,101]⟩:ByteArray) by rw[HWD.out,FU,if_neg (by rw[e2];decide),if_pos e2])
     clear HW0
     subst e2
     go_wp2_with fail
     go_meet
     case rel=>exact⟨by rw[HW2.out],HS.out⟩
   · have HW2:=hide (show w0=wd by rw[HW0.out,HWD.out,FU,if_neg e2])
     have e2b:(qa == 2)=false:=by simpa using e2
     clear e2
     go_wp2_with fail
     go_meet
     case rel=>exact⟨by rw[HW2.out],HS.out⟩
  case rest =>
   obtain⟨rfl,hs⟩:=hcut
   clear HS
   have HS:=hide hs
   clear hs HW0
   go_wp2_with fail
   go_region_held3 (fun W=>(W.cell? ⟨w.heap.size,0,none⟩=some (.slice h.s m.sT.length h.sc)∧W.cell? ⟨w.heap.size,1,none⟩=some (.slice h.f m.fT.length h.fc)∧W.cell? ⟨w.heap.size,2,none⟩=some (.slice h.r m.rT.length h.rc)∧W.cell? ⟨w.heap.size,3,none⟩=some (.slice h.m m.mT.length h.mc)∧W.cell? ⟨w.heap.size,4,none⟩=some (.slice h.l m.lT.length h.lc)∧W.cell? ⟨w.heap.size,5,none⟩=some (.slice h.i m.iT.length h.ic)∧W.cell? ⟨w.heap.size,6,none⟩=some (.int .i64 m.dT)∧W.cell? ⟨w.heap.size,7,none⟩=some (.int .i64 m.oT)∧W.cell? ⟨w.heap.size,8,none⟩=some (.int .i64 m.vT)∧W.cell? ⟨w.heap.size,9,none⟩=some (.int .i64 m.aT)∧W.cell? ⟨w.heap.size,10,none⟩=some (.slice h.u m.uT.length h.uc))∧MS w #[.slice h.s m.sT.length h.sc,.slice h.f m.fT.length h.fc,.slice h.r m.rT.length h.rc,.slice h.m m.mT.length h.mc,.slice h.l m.lT.length h.lc,.slice h.i m.iT.length h.ic,.int .i64 m.dT,.int .i64 m.oT,.int .i64 m.vT,.int .i64 m.aT,.slice h.u m.uT.length h.uc] W)
    (with_reducible (first|(go_keep;done)|exact⟨MS.cells HS.out.drew,HS.out.drew⟩|exact⟨MS.cells c6,c6⟩|exact⟨MS.cells c5,c5⟩|exact⟨MS.cells d2,d2⟩|exact⟨MS.cells c4,c4⟩|exact⟨MS.cells d1,d1⟩|exact⟨MS.cells c3,c3⟩|exact⟨MS.cells d0,d0⟩|exact⟨MS.cells c2,c2⟩|exact⟨MS.cells c1,c1⟩|(have hH:=(by assumption:_∧MS _ _ _);first|exact⟨MS.cells (MS.drew hH.2),MS.drew hH.2⟩|exact⟨MS.cells (MS.alloc hH.2),MS.alloc hH.2⟩)))
    (first|(go_at_call 39;first|(have hH:=(by assumption:_∧MS _ _ _);have hbw:=MS.b hH.2;(with_reducible refine(HI1.out _).mono ?_);rintro e w2 ⟨rfl,hb⟩;have c1:=MS.grow hH.2 hb;clear hb hH hbw)|(have hH:=And.intro (MS.cells HS.out.drew) HS.out.drew;have hbw:=MS.b hH.2;(with_reducible refine(HI1.out _).mono ?_);rintro e w2 ⟨rfl,hb⟩;have c1:=MS.grow hH.2 hb;clear hb hH hbw)|(have hH:=(by assumption:_∧MS _ _ _);have hbw:=MS.b hH.2;(with_reducible refine(HN0.out _).mono ?_);rintro e w2 ⟨rfl,hb⟩;have c2:=MS.grow hH.2 hb;clear hb hH hbw)|(have hH:=And.intro (MS.cells HS.out.drew) HS.out.drew;have hbw:=MS.b hH.2;(with_reducible refine(HN0.out _).mono ?_);rintro e w2 ⟨rfl,hb⟩;have c2:=MS.grow hH.2 hb;clear hb hH hbw)|(have hH:=(by assumption:_∧MS _ _ _);have hbw:=MS.b hH.2;(with_reducible refine(HN1.out _).mono ?_);rintro e w2 ⟨rfl,hb⟩;have c3:=MS.grow hH.2 hb;clear hb hH hbw)|(have hH:=And.intro (MS.cells HS.out.drew) HS.out.drew;have hbw:=MS.b hH.2;(with_reducible refine(HN1.out _).mono ?_);rintro e w2 ⟨rfl,hb⟩;have c3:=MS.grow hH.2 hb;clear hb hH hbw)|(have hH:=(by assumption:_∧MS _ _ _);have hbw:=MS.b hH.2;(with_reducible refine(HN2.out _).mono ?_);rintro e w2 ⟨rfl,hb⟩;have c4:=MS.grow hH.2 hb;clear hb hH hbw)|(have hH:=And.intro (MS.cells HS.out.drew) HS.out.drew;have hbw:=MS.b hH.2;(with_reducible refine(HN2.out _).mono ?_);rintro e w2 ⟨rfl,hb⟩;have c4:=MS.grow hH.2 hb;clear hb hH hbw)|(have hH:=(by assumption:_∧MS _ _ _);have hbw:=MS.b hH.2;(with_reducible refine(HI2.out _).mono ?_);rintro e w2 ⟨rfl,hb⟩;have c6:=MS.grow hH.2 hb;clear hb hH hbw)|(have hH:=And.intro (MS.cells HS.out.drew) HS.out.drew;have hbw:=MS.b hH.2;(with_reducible refine(HI2.out _).mono ?_);rintro e w2 ⟨rfl,hb⟩;have c6:=MS.grow hH.2 hb;clear hb hH hbw))|(go_at_call 40;first|(have hH:=(by assumption:_∧MS _ _ _);have hbw:=MS.b hH.2;(with_reducible refine(HC0.out _ hbw).mono ?_);rintro e w3 ⟨rfl,hb⟩;have d0:=MS.grow hH.2 hb;clear hb hH hbw)|(have hH:=And.intro (MS.cells HS.out.drew) HS.out.drew;have hbw:=MS.b hH.2;(with_reducible refine(HC0.out _ hbw).mono ?_);rintro e w3 ⟨rfl,hb⟩;have d0:=MS.grow hH.2 hb;clear hb hH hbw)|(have hH:=(by assumption:_∧MS _ _ _);have hbw:=MS.b hH.2;(with_reducible refine(HC1.out _ hbw).mono ?_);rintro e w3 ⟨rfl,hb⟩;have d1:=MS.grow hH.2 hb;clear hb hH hbw)|(have hH:=And.intro (MS.cells HS.out.drew) HS.out.drew;have hbw:=MS.b hH.2;(with_reducible refine(HC1.out _ hbw).mono ?_);rintro e w3 ⟨rfl,hb⟩;have d1:=MS.grow hH.2 hb;clear hb hH hbw)|(have hH:=(by assumption:_∧MS _ _ _);have hbw:=MS.b hH.2;(with_reducible refine(HC2.out _ hbw).mono ?_);rintro e w3 ⟨rfl,hb⟩;have d2:=MS.grow hH.2 hb;clear hb hH hbw)|(have hH:=And.intro (MS.cells HS.out.drew) HS.out.drew;have hbw:=MS.b hH.2;(with_reducible refine(HC2.out _ hbw).mono ?_);rintro e w3 ⟨rfl,hb⟩;have d2:=MS.grow hH.2 hb;clear hb hH hbw))|(go_at_call 41;first|(have hH:=(by assumption:_∧MS _ _ _);have hbw:=MS.b hH.2;(with_reducible refine(HBR.out _ hbw).mono ?_);rintro e w4 ⟨v,rfl,ho,hb⟩;obtain⟨A5,k5,rfl⟩:=ho.form;clear ho;have c5:=MS.grow hH.2 hb;clear hb hH hbw)|(have hH:=And.intro (MS.cells HS.out.drew) HS.out.drew;have hbw:=MS.b hH.2;(with_reducible refine(HBR.out _ hbw).mono ?_);rintro e w4 ⟨v,rfl,ho,hb⟩;obtain⟨A5,k5,rfl⟩:=ho.form;clear ho;have c5:=MS.grow hH.2 hb;clear hb hH hbw)))
   have hH:=(by assumption:_∧MS _ _ _)
   obtain⟨-,hs5⟩:=hH
   have h56:=MS.own5 hs5 c6.b.size
   obtain⟨a0,a1,a2,a3,a4,a5,a6,a7,a8,a9,a10⟩:=MS.cells hs5
   generalize w2.alloc _=W3 at *
   have mlt5:=hs5.m.lt
   have HO5:=hide h56.1
   have HD5:=hide (HDK.out W3 hs5.b)
   have HS5:=hide hs5
   clear hs5 h56 c1 c2 c3 c4 c5 c6 d0 d1 d2
   by_cases hdk:dk<0
   · have hge:¬ (0:Int)≤dk:=by omega
     rw[if_pos hdk,List.append_nil] at HSM
     clear a0 a1 a2 a3 a4 a5 a6 a7 a8 a9 a10 hdk
     go_wp2_with (go_at_call 42;refine HD5.out.mono ?_;rintro e w9 ⟨rfl,rfl⟩)
     go_ret
     obtain⟨A9,c9,e9,hst⟩:=HO5.out.form
     exact⟨A9,c9,by rw[HSM.out,← e9];rfl,by rw[HSM.out];exact hst,HS5.out.b⟩
   · have hge:(0:Int)≤dk:=by omega
     rw[if_neg hdk] at HSM
     clear hdk
     go_wp2_with (first
      | (go_at_call 42;refine HD5.out.mono ?_;rintro e w9 ⟨rfl,rfl⟩)
      | (go_at_call 43;refine(HDU.out _ HS5.out.b).mono ?_;rintro e w10 ⟨A10,c10,rfl,-,hb10⟩
         have HO10:=hide (HO5.out.below hb10)
         have HB10:=hide (HS5.out.b.trans (hb10.mono HS5.out.b.size))
         clear hb10 a0 a1 a2 a3 a4 a5 a6 a7 a8 a9 a10 mlt5)
      | (go_at_call 39;refine(HI3.out _).mono ?_;rintro e w11 ⟨rfl,hb11⟩
         have HO11:=hide (HO10.out.below hb11)
         have HB11:=hide (HB10.out.trans (hb11.mono HB10.out.size))
         clear hb11)
      | (at_builtin;refine D6 rfl _ _ rfl w.heap.size _ [(⟨#[101,118,101,110,116,115,32]⟩:ByteArray)++s0,(((⟨#[114,101,113,117,101,115,116,115,32]⟩:ByteArray)++s1)++(⟨#[44,32,97,110,115,119,101,114,115,32]⟩:ByteArray))++s2,(⟨#[99,111,110,102,105,103,117,114,97,116,105,111,110,115,32]⟩:ByteArray)++s3,(⟨#[111,117,116,99,111,109,101,32]⟩:ByteArray)++wd,(⟨#[98,114,101,97,99,104,101,115,32]⟩:ByteArray)++s4] rfl (HO11.out.alloc _) _ _ 1 [(⟨#[105,110,32,116,104,101,32,100,97,114,107,32]⟩:ByteArray)++s5] rfl (Strs.newRow2 w11 9 [(⟨#[105,110,32,116,104,101,32,100,97,114,107,32]⟩:ByteArray)++s5] rfl) (by simp) (by have:=HB11.out.size;simp;omega) ?_
         intro v12 w12 hO12 hg12 _
         have HB12:=hide (Below.ofGrown (HB11.out.alloc HB11.out.size _) hg12 (by have:=HB11.out.size;simp;omega) (fun k hk=>(HO11.out.lt k hk).1))
         have HO12:=hide hO12
         clear hO12 hg12))
     go_ret
     obtain⟨A9,c9,e9,hst⟩:=HO12.out.form
     exact⟨A9,c9,by rw[HSM.out,← e9];rfl,by rw[HSM.out];exact hst,HB12.out⟩
end Go.Proofs.YtfemlajeomohhaaGreatDoor
