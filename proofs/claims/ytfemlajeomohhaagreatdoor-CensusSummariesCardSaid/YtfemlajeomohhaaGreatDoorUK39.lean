/- A part of the claim: see its last text. -/
import Derived.Test.YtfemlajeomohhaaGreatDoorUK38

set_option maxRecDepth 100000
set_option maxHeartbeats 16000000
namespace Go.Proofs.YtfemlajeomohhaaGreatDoor
open Go Go.RowKit Go.Proofs
theorem Rn {α:Type} {l:List α} {f:α→Bool}:l.find? f=match l.findIdx? f with|some i=>l[i]? | none=>none:=by
 induction l with
 | nil=>rfl
 | cons a l ih =>
   rw[List.find?_cons,List.findIdx?_cons]
   cases h:f a
   · simp only[Bool.false_eq_true,↓reduceIte]
     rw[ih]
     cases l.findIdx? f <;> simp
   · simp
theorem TN {α:Type} {p:α→Bool} {l:List α} {k:Nat} (hk:k<l.length) (h:p l[k]=true) (hb:∀ j (hj:j<l.length),j<k→p l[j]=false):l.find? p=some l[k]:=by
 have:l.findIdx? p=some k:=by
  rw[List.findIdx?_eq_some_iff_getElem]
  exact⟨hk,h,fun j hj=>by simpa using hb j (by omega) hj⟩
 rw[Rn,this];simp[hk]
theorem Qo {α:Type} {p:α→Bool} {l:List α} (hb:∀ j (hj:j<l.length),p l[j]=false):l.find? p=none:=by
 rw[List.find?_eq_none]
 intro x hx
 obtain⟨j,hj,rfl⟩:=List.getElem_of_mem hx
 simp[hb j hj]
theorem Mk (r:AR) (p:AA):BC r p=((AQ p r.item).find? fun u=>!decide (u.1∈r.machines)).map (·.1):=by
 unfold BC
 rw[List.find?_map];rfl
theorem Lp (x : AR) (A:Option Addr) (c:Nat) (Ap:Option Addr) (cp:Nat) (p:AA) (w:World) (hp:PR w w.heap.size Ap p) (hl:p.length≤1000) (hul:(AQ p x.item).length≤1000) (hI:Ints w w.heap.size A x.machines) (hml:x.machines.length≤9223372036854775807) :
    Calls Tryz.prog 200 #[.agg #[.int .i64 x.kind,.int .i64 x.item,.int .i64 x.other,.int .i64 x.n,.int .i64 x.by_,.bool x.always,.slice A x.machines.length c],.agg #[.slice Ap p.length cp]] w (Ce w (.tuple #[.int .i64 ((BC x p).getD 0),.bool (BC x p).isSome])):=by
 obtain⟨w0,e0⟩:∃ w0,w0=(w.alloc (.cells #[.int .i64 x.kind,.int .i64 x.item,.int .i64 x.other,.int .i64 x.n,.int .i64 x.by_,.bool x.always,.slice A x.machines.length c] 51)).alloc (.cells #[.slice Ap p.length cp] 56):=⟨_,rfl⟩
 have hb0:Below w.heap.size w w0:=by rw[e0];exact((Below.refl w.heap.size w).alloc (Nat.le_refl _) _).alloc (by simp) _
 have HR0:=hide (show AB w0 w.heap.size 51 #[.int .i64 x.kind,.int .i64 x.item,.int .i64 x.other,.int .i64 x.n,.int .i64 x.by_,.bool x.always,.slice A x.machines.length c] by rw[e0];exact(AB.new w _ _).alloc _)
 have HB:=hide hb0
 have HU:=hide (Ju Ap cp p x.item w0 (hp.grow hb0) (by omega))
 have HIw:=hide (fun W (hW:Below w.heap.size w W)=>hI.grow hW)
 have HE:=hide e0
 have HEQ:=hide (Mk x p)
 obtain⟨l,hL⟩:∃ l,l=AQ p x.item:=⟨_,rfl⟩
 rw[← hL] at HU hul HEQ
 clear hb0 hp hI hL e0
 go_enter Tryz.func200,Tryz.ntmps200
 go_wp2_with (rw[← HE.out];go_at_call 134;refine HU.out.mono ?_;rintro e w1 ⟨A1,c1,rfl,hr1,hb1⟩
              have HR1:=hide (HR0.out.below hb1 HR0.out.lt)
              have HB1:=hide (HB.out.trans (hb1.mono HB.out.size))
              have HF1:=hide hr1
              clear hb1 hr1)
 clear HR0
 go_loopw [7] (fun i wr=>∃ k:Nat,k≤l.length∧i=.int .i64 k∧Below w1.heap.size w1 wr∧Hid (∀ j (hj:j<l.length),j<k→(fun u:AO=>!decide (u.1∈x.machines)) l[j]=false)) (fun i _=>l.length - (intOf i).toNat)
 case atStart=>exact⟨0,Nat.zero_le _,rfl,Below.refl _ _,fun j hj h0=>absurd h0 (by omega)⟩
 case round =>
  obtain⟨k,hk,rfl,hbr,hs⟩:=hrel
  by_cases hlt:k<l.length
  · obtain ⟨b,off,hA,hb,x0,x1⟩:=HF1.out.at_ hlt
    subst hA
    obtain⟨y,hy⟩:∃ y,y=l[k]:=⟨_,rfl⟩
    rw[← hy] at x0
    have HY:=hide hy
    have HRB:=HR1.out.below hbr HR1.out.lt
    have y6:=HRB.cell 6
    have yl:=HRB.lt
    simp at y6
    have z0:=(hbr.cell (p:=⟨b,off+k*2,none⟩) hb).trans x0
    have zl:=Nat.lt_of_lt_of_le hb hbr.size
    have HBR:=hide hbr
    have HLT:=hide hlt
    have hlI:(k:Int)<(l.length:Int):=by omega
    have HC:=hide (fun W (hW:Below wr.heap.size wr W)=>PN A c x.machines y.1 W (by omega) (HIw.out W ((HB1.out.trans (hbr.mono HB1.out.size)).trans (hW.mono (HB1.out.trans (hbr.mono HB1.out.size)).size))))
    clear hy HRB x0 x1 hb hbr
    have hB:∀ b:Bool,b=false∨b=true:=fun b=>by cases b <;> simp
    rcases hB (decide (y.1∈x.machines)) with hq|hq
    · rw[hq] at HC
      have HF:=hide (TN (p:=fun u:AO=>!decide (u.1∈x.machines)) hlt (by rw[← HY.out];simp at hq;simp[hq]) hs.out)
      go_wp2_with fail
      go_quiet ((go_at_call 221;exact Bv (HC.out _ (AY (Below.refl _ _) _))))
      go_wp2_with fail
      go_ret2
      exact⟨by rw[HEQ.out,HF.out,← HY.out];rfl,HB1.out.trans ((AY HBR.out _).mono HB1.out.size)⟩
    · rw [hq] at HC
      have HQ:=hide hq
      go_wp2_with fail
      go_quiet ((go_at_call 221;exact Bv (HC.out _ (AY (Below.refl _ _) _))))
      go_wp2_with fail
      go_roundw
      case rel=>exact⟨k+1,HLT.out,by go_num,AY HBR.out _,fun j hj h1=>by
       rcases Nat.lt_or_ge j k with h2|h2
       · exact hs.out j hj h2
       · obtain rfl:j=k:=by omega
         rw[← HY.out];simp only[HQ.out];rfl⟩
      case measure=>have:=HLT.out;simp[intOf];omega
  · have HF:=hide (Qo (p:=fun u:AO=>!decide (u.1∈x.machines)) fun j hj=>hs.out j hj (by omega))
    obtain rfl:k=l.length:=by omega
    go_wp2_with fail
    go_ret2
    exact⟨by rw[HEQ.out,HF.out];rfl,HB1.out.trans (hbr.mono HB1.out.size)⟩
structure Eh (w:World) (h:MH) (m:AC) (x:AR) (A:Option Addr) (Ap:Option Addr) (p:AA):Prop where
 d:MD w w.heap.size h m
 i:Ints w w.heap.size A x.machines
 il:x.machines.length≤9223372036854775807
 pr:PR w w.heap.size Ap p
 l:p.length≤1000
 u:(AQ p x.item).length≤1000
 dm:AZ m x.by_≤100
theorem Eh.grow {w w':World} {h:MH} {m:AC} {x:AR} {A Ap:Option Addr} {p:AA} (c:Eh w h m x A Ap p) (hb:Below w.heap.size w w'):Eh w' h m x A Ap p :=
 ⟨c.d.grow hb,c.i.grow hb,c.il,c.pr.grow hb,c.l,c.u,c.dm⟩
theorem Cond.rd{w:World}{h:MH}{m:AC}{x:AR}{A Ap:Option Addr}{cp:Nat}{p:AA}(c:Cond w h m x A Ap cp p):Eh w h m x A Ap p:=⟨c.d,c.i,c.il,c.pt,c.l,c.u,c.dm⟩
theorem Rp (h:MH) (m:AC) (x:AR) (A:Option Addr) (c:Nat) (Ap:Option Addr) (cp:Nat) (p:AA) (f:Int×Int) (w:World) (C:Eh w h m x A Ap p) (g0:(x.kind == 0)=true) :
    Calls Tryz.prog 133 #[.agg #[.slice h.s m.sT.length h.sc,.slice h.f m.fT.length h.fc,.slice h.r m.rT.length h.rc,.slice h.m m.mT.length h.mc,.slice h.l m.lT.length h.lc,.slice h.i m.iT.length h.ic,.int .i64 m.dT,.int .i64 m.oT,.int .i64 m.vT,.int .i64 m.aT,.slice h.u m.uT.length h.uc],.agg #[.int .i64 x.kind,.int .i64 x.item,.int .i64 x.other,.int .i64 x.n,.int .i64 x.by_,.bool x.always,.slice A x.machines.length c],.agg #[.slice Ap p.length cp],.agg #[.int .i64 f.1,.int .i64 f.2]] w (Ce w (.bool (decide (((Af p x.item 0).length:Int)<2*((Bo m p f x.item).length:Int))))):=by
 have hs:=S4.start w #[.slice h.s m.sT.length h.sc,.slice h.f m.fT.length h.fc,.slice h.r m.rT.length h.rc,.slice h.m m.mT.length h.mc,.slice h.l m.lT.length h.lc,.slice h.i m.iT.length h.ic,.int .i64 m.dT,.int .i64 m.oT,.int .i64 m.vT,.int .i64 m.aT,.slice h.u m.uT.length h.uc] #[.int .i64 x.kind,.int .i64 x.item,.int .i64 x.other,.int .i64 x.n,.int .i64 x.by_,.bool x.always,.slice A x.machines.length c] #[.slice Ap p.length cp] #[.int .i64 f.1,.int .i64 f.2]
 have HS:=hide hs
 have HSU:=hide (fun W (hW:Below w.heap.size w W)=>Ff h m Ap cp p f x.item W (C.grow hW).d (C.grow hW).pr C.l C.u)
 have HMA:=hide (fun W (hW:Below w.heap.size w W)=>GM Ap cp p x.item 0 W (C.grow hW).pr C.l C.u)
 have z1:=Nat.le_trans (Gp m p f x.item) (Bu p x.item 0)
 have z2:=Bu p x.item 0
 have zu:=C.u
 obtain⟨L1,h1⟩:∃ L,L=Bo m p f x.item:=⟨_,rfl⟩
 obtain⟨L2,h2⟩:∃ L,L=Af p x.item 0:=⟨_,rfl⟩
 rw[← h1] at HSU z1 ⊢
 rw[← h2] at HMA z2 ⊢
 have y1:L1.length≤1000:=by omega
 have y2:L2.length≤1000:=by omega
 have hwr:IntKind.i64.wrap (2*(L1.length:Int))=2*(L1.length:Int):=by rw[IntKind.wrap_i64];omega
 clear h1 h2 z1 z2 zu hs C
 go_enter Tryz.func133,Tryz.ntmps133
 go_wp2_with fail
 go_region_held3 (fun W=>((W.cell? ⟨w.heap.size,0,none⟩=some (.slice h.s m.sT.length h.sc)∧W.cell? ⟨w.heap.size,1,none⟩=some (.slice h.f m.fT.length h.fc)∧W.cell? ⟨w.heap.size,2,none⟩=some (.slice h.r m.rT.length h.rc)∧W.cell? ⟨w.heap.size,3,none⟩=some (.slice h.m m.mT.length h.mc)∧W.cell? ⟨w.heap.size,4,none⟩=some (.slice h.l m.lT.length h.lc)∧W.cell? ⟨w.heap.size,5,none⟩=some (.slice h.i m.iT.length h.ic)∧W.cell? ⟨w.heap.size,6,none⟩=some (.int .i64 m.dT)∧W.cell? ⟨w.heap.size,7,none⟩=some (.int .i64 m.oT)∧W.cell? ⟨w.heap.size,8,none⟩=some (.int .i64 m.vT)∧W.cell? ⟨w.heap.size,9,none⟩=some (.int .i64 m.aT)∧W.cell? ⟨w.heap.size,10,none⟩=some (.slice h.u m.uT.length h.uc))∧(W.cell? ⟨w.heap.size+1,0,none⟩=some (.int .i64 x.kind)∧W.cell? ⟨w.heap.size+1,1,none⟩=some (.int .i64 x.item)∧W.cell? ⟨w.heap.size+1,2,none⟩=some (.int .i64 x.other)∧W.cell? ⟨w.heap.size+1,3,none⟩=some (.int .i64 x.n)∧W.cell? ⟨w.heap.size+1,4,none⟩=some (.int .i64 x.by_)∧W.cell? ⟨w.heap.size+1,5,none⟩=some (.bool x.always)∧W.cell? ⟨w.heap.size+1,6,none⟩=some (.slice A x.machines.length c))∧W.cell? ⟨w.heap.size+1+1,0,none⟩=some (.slice Ap p.length cp)∧W.cell? ⟨w.heap.size+1+1+1,0,none⟩=some (.int .i64 f.1)∧W.cell? ⟨w.heap.size+1+1+1,1,none⟩=some (.int .i64 f.2))∧S4 w #[.slice h.s m.sT.length h.sc,.slice h.f m.fT.length h.fc,.slice h.r m.rT.length h.rc,.slice h.m m.mT.length h.mc,.slice h.l m.lT.length h.lc,.slice h.i m.iT.length h.ic,.int .i64 m.dT,.int .i64 m.oT,.int .i64 m.vT,.int .i64 m.aT,.slice h.u m.uT.length h.uc] #[.int .i64 x.kind,.int .i64 x.item,.int .i64 x.other,.int .i64 x.n,.int .i64 x.by_,.bool x.always,.slice A x.machines.length c] #[.slice Ap p.length cp] #[.int .i64 f.1,.int .i64 f.2] W)
  ((with_reducible (first|(go_keep;done)|exact⟨S4.cells HS.out.drew,HS.out.drew⟩|exact⟨S4.cells c7,c7⟩|exact⟨S4.cells c8,c8⟩|(have hH:=(by assumption:_∧S4 _ _ _ _ _ _);exact⟨S4.cells (S4.drew hH.2),S4.drew hH.2⟩))))
  ((first
    | (go_at_call 197;first
        | (have hH:=(by assumption:_∧S4 _ _ _ _ _ _);(with_reducible refine(HSU.out _ hH.2.b).mono ?_);rintro e w5 ⟨v5,rfl,ho5,hb5⟩;obtain⟨A5,k5,rfl,_⟩:=ho5.form;have c7:=S4.grow hH.2 hb5;clear hH ho5)
        | (have hH:=And.intro (S4.cells HS.out.drew) HS.out.drew;(with_reducible refine(HSU.out _ hH.2.b).mono ?_);rintro e w5 ⟨v5,rfl,ho5,hb5⟩;obtain⟨A5,k5,rfl,_⟩:=ho5.form;have c7:=S4.grow hH.2 hb5;clear hH ho5))
    | (go_at_call 198;first
        | (have hH:=(by assumption:_∧S4 _ _ _ _ _ _);(with_reducible refine(HMA.out _ hH.2.b).mono ?_);rintro e w6 ⟨v6,rfl,ho6,hb6⟩;obtain⟨A6,k6,rfl,_⟩:=ho6.form;have c8:=S4.grow hH.2 hb6;clear hH ho6)
        | (have hH:=And.intro c7 c7;(with_reducible refine(HMA.out _ hH.2.b).mono ?_);rintro e w6 ⟨v6,rfl,ho6,hb6⟩;obtain⟨A6,k6,rfl,_⟩:=ho6.form;have c8:=S4.grow hH.2 hb6;clear hH ho6))))
 all_goals
  go_wp2_with fail
  go_ret
  exact⟨rfl,c8.b⟩
theorem S4.cellsF {w:World} {h:MH} {m:AC} {x:AR} {A Ap:Option Addr} {c cp:Nat} {p:AA} {f:Int×Int} {W:World} (s:S4 w #[.slice h.s m.sT.length h.sc,.slice h.f m.fT.length h.fc,.slice h.r m.rT.length h.rc,.slice h.m m.mT.length h.mc,.slice h.l m.lT.length h.lc,.slice h.i m.iT.length h.ic,.int .i64 m.dT,.int .i64 m.oT,.int .i64 m.vT,.int .i64 m.aT,.slice h.u m.uT.length h.uc] #[.int .i64 x.kind,.int .i64 x.item,.int .i64 x.other,.int .i64 x.n,.int .i64 x.by_,.bool false,.slice A x.machines.length c] #[.slice Ap p.length cp] #[.int .i64 f.1,.int .i64 f.2] W):(W.cell? ⟨w.heap.size,0,none⟩=some (.slice h.s m.sT.length h.sc)∧W.cell? ⟨w.heap.size,1,none⟩=some (.slice h.f m.fT.length h.fc)∧W.cell? ⟨w.heap.size,2,none⟩=some (.slice h.r m.rT.length h.rc)∧W.cell? ⟨w.heap.size,3,none⟩=some (.slice h.m m.mT.length h.mc)∧W.cell? ⟨w.heap.size,4,none⟩=some (.slice h.l m.lT.length h.lc)∧W.cell? ⟨w.heap.size,5,none⟩=some (.slice h.i m.iT.length h.ic)∧W.cell? ⟨w.heap.size,6,none⟩=some (.int .i64 m.dT)∧W.cell? ⟨w.heap.size,7,none⟩=some (.int .i64 m.oT)∧W.cell? ⟨w.heap.size,8,none⟩=some (.int .i64 m.vT)∧W.cell? ⟨w.heap.size,9,none⟩=some (.int .i64 m.aT)∧W.cell? ⟨w.heap.size,10,none⟩=some (.slice h.u m.uT.length h.uc))∧(W.cell? ⟨w.heap.size+1,0,none⟩=some (.int .i64 x.kind)∧W.cell? ⟨w.heap.size+1,1,none⟩=some (.int .i64 x.item)∧W.cell? ⟨w.heap.size+1,2,none⟩=some (.int .i64 x.other)∧W.cell? ⟨w.heap.size+1,3,none⟩=some (.int .i64 x.n)∧W.cell? ⟨w.heap.size+1,4,none⟩=some (.int .i64 x.by_)∧W.cell? ⟨w.heap.size+1,5,none⟩=some (.bool false)∧W.cell? ⟨w.heap.size+1,6,none⟩=some (.slice A x.machines.length c))∧W.cell? ⟨w.heap.size+1+1,0,none⟩=some (.slice Ap p.length cp)∧W.cell? ⟨w.heap.size+1+1+1,0,none⟩=some (.int .i64 f.1)∧W.cell? ⟨w.heap.size+1+1+1,1,none⟩=some (.int .i64 f.2) :=
 ⟨MB.cells s.m,⟨s.x.cell 0,s.x.cell 1,s.x.cell 2,s.x.cell 3,s.x.cell 4,s.x.cell 5,s.x.cell 6⟩,s.p.cell 0,s.f.cell 0,s.f.cell 1⟩
theorem S4.cellsT {w:World} {h:MH} {m:AC} {x:AR} {A Ap:Option Addr} {c cp:Nat} {p:AA} {W:World} (s:S4 w #[.slice h.s m.sT.length h.sc,.slice h.f m.fT.length h.fc,.slice h.r m.rT.length h.rc,.slice h.m m.mT.length h.mc,.slice h.l m.lT.length h.lc,.slice h.i m.iT.length h.ic,.int .i64 m.dT,.int .i64 m.oT,.int .i64 m.vT,.int .i64 m.aT,.slice h.u m.uT.length h.uc] #[.int .i64 x.kind,.int .i64 x.item,.int .i64 x.other,.int .i64 x.n,.int .i64 x.by_,.bool true,.slice A x.machines.length c] #[.slice Ap p.length cp] #[.int .i64 0,.int .i64 0] W):(W.cell? ⟨w.heap.size,0,none⟩=some (.slice h.s m.sT.length h.sc)∧W.cell? ⟨w.heap.size,1,none⟩=some (.slice h.f m.fT.length h.fc)∧W.cell? ⟨w.heap.size,2,none⟩=some (.slice h.r m.rT.length h.rc)∧W.cell? ⟨w.heap.size,3,none⟩=some (.slice h.m m.mT.length h.mc)∧W.cell? ⟨w.heap.size,4,none⟩=some (.slice h.l m.lT.length h.lc)∧W.cell? ⟨w.heap.size,5,none⟩=some (.slice h.i m.iT.length h.ic)∧W.cell? ⟨w.heap.size,6,none⟩=some (.int .i64 m.dT)∧W.cell? ⟨w.heap.size,7,none⟩=some (.int .i64 m.oT)∧W.cell? ⟨w.heap.size,8,none⟩=some (.int .i64 m.vT)∧W.cell? ⟨w.heap.size,9,none⟩=some (.int .i64 m.aT)∧W.cell? ⟨w.heap.size,10,none⟩=some (.slice h.u m.uT.length h.uc))∧(W.cell? ⟨w.heap.size+1,0,none⟩=some (.int .i64 x.kind)∧W.cell? ⟨w.heap.size+1,1,none⟩=some (.int .i64 x.item)∧W.cell? ⟨w.heap.size+1,2,none⟩=some (.int .i64 x.other)∧W.cell? ⟨w.heap.size+1,3,none⟩=some (.int .i64 x.n)∧W.cell? ⟨w.heap.size+1,4,none⟩=some (.int .i64 x.by_)∧W.cell? ⟨w.heap.size+1,5,none⟩=some (.bool true)∧W.cell? ⟨w.heap.size+1,6,none⟩=some (.slice A x.machines.length c))∧W.cell? ⟨w.heap.size+1+1,0,none⟩=some (.slice Ap p.length cp)∧W.cell? ⟨w.heap.size+1+1+1,0,none⟩=some (.int .i64 0)∧W.cell? ⟨w.heap.size+1+1+1,1,none⟩=some (.int .i64 0) :=
 ⟨MB.cells s.m,⟨s.x.cell 0,s.x.cell 1,s.x.cell 2,s.x.cell 3,s.x.cell 4,s.x.cell 5,s.x.cell 6⟩,s.p.cell 0,s.f.cell 0,s.f.cell 1⟩
theorem Qq (h:MH) (m:AC) (x:AR) (A:Option Addr) (c:Nat) (Ap:Option Addr) (cp:Nat) (p:AA) (f:Int×Int) (w:World) (C:Eh w h m x A Ap p) (g0:(x.kind == 0)=false) (g1:(x.kind == 1)=true) (hal:x.always=false) :
    Calls Tryz.prog 133 #[.agg #[.slice h.s m.sT.length h.sc,.slice h.f m.fT.length h.fc,.slice h.r m.rT.length h.rc,.slice h.m m.mT.length h.mc,.slice h.l m.lT.length h.lc,.slice h.i m.iT.length h.ic,.int .i64 m.dT,.int .i64 m.oT,.int .i64 m.vT,.int .i64 m.aT,.slice h.u m.uT.length h.uc],.agg #[.int .i64 x.kind,.int .i64 x.item,.int .i64 x.other,.int .i64 x.n,.int .i64 x.by_,.bool x.always,.slice A x.machines.length c],.agg #[.slice Ap p.length cp],.agg #[.int .i64 f.1,.int .i64 f.2]] w (Ce w (.bool (decide (x.n≤((Bo m p f x.item).length:Int))))):=by
 have HS:=hide (S4.start w #[.slice h.s m.sT.length h.sc,.slice h.f m.fT.length h.fc,.slice h.r m.rT.length h.rc,.slice h.m m.mT.length h.mc,.slice h.l m.lT.length h.lc,.slice h.i m.iT.length h.ic,.int .i64 m.dT,.int .i64 m.oT,.int .i64 m.vT,.int .i64 m.aT,.slice h.u m.uT.length h.uc] #[.int .i64 x.kind,.int .i64 x.item,.int .i64 x.other,.int .i64 x.n,.int .i64 x.by_,.bool x.always,.slice A x.machines.length c] #[.slice Ap p.length cp] #[.int .i64 f.1,.int .i64 f.2])
 have HSU:=hide (fun W (hW:Below w.heap.size w W)=>Ff h m Ap cp p f x.item W (C.grow hW).d (C.grow hW).pr C.l C.u)
 have z1:=Nat.le_trans (Gp m p f x.item) (Bu p x.item 0)
 have zu:=C.u
 obtain⟨L1,h1⟩:∃ L,L=Bo m p f x.item:=⟨_,rfl⟩
 rw[← h1] at HSU z1 ⊢
 have y1:L1.length≤1000:=by omega
 simp only[hal] at HS ⊢
 clear h1 z1 zu C hal
 go_enter Tryz.func133,Tryz.ntmps133
 go_wp2_with fail
 go_region_held3 (fun W=>((W.cell? ⟨w.heap.size,0,none⟩=some (.slice h.s m.sT.length h.sc)∧W.cell? ⟨w.heap.size,1,none⟩=some (.slice h.f m.fT.length h.fc)∧W.cell? ⟨w.heap.size,2,none⟩=some (.slice h.r m.rT.length h.rc)∧W.cell? ⟨w.heap.size,3,none⟩=some (.slice h.m m.mT.length h.mc)∧W.cell? ⟨w.heap.size,4,none⟩=some (.slice h.l m.lT.length h.lc)∧W.cell? ⟨w.heap.size,5,none⟩=some (.slice h.i m.iT.length h.ic)∧W.cell? ⟨w.heap.size,6,none⟩=some (.int .i64 m.dT)∧W.cell? ⟨w.heap.size,7,none⟩=some (.int .i64 m.oT)∧W.cell? ⟨w.heap.size,8,none⟩=some (.int .i64 m.vT)∧W.cell? ⟨w.heap.size,9,none⟩=some (.int .i64 m.aT)∧W.cell? ⟨w.heap.size,10,none⟩=some (.slice h.u m.uT.length h.uc))∧(W.cell? ⟨w.heap.size+1,0,none⟩=some (.int .i64 x.kind)∧W.cell? ⟨w.heap.size+1,1,none⟩=some (.int .i64 x.item)∧W.cell? ⟨w.heap.size+1,2,none⟩=some (.int .i64 x.other)∧W.cell? ⟨w.heap.size+1,3,none⟩=some (.int .i64 x.n)∧W.cell? ⟨w.heap.size+1,4,none⟩=some (.int .i64 x.by_)∧W.cell? ⟨w.heap.size+1,5,none⟩=some (.bool false)∧W.cell? ⟨w.heap.size+1,6,none⟩=some (.slice A x.machines.length c))∧W.cell? ⟨w.heap.size+1+1,0,none⟩=some (.slice Ap p.length cp)∧W.cell? ⟨w.heap.size+1+1+1,0,none⟩=some (.int .i64 f.1)∧W.cell? ⟨w.heap.size+1+1+1,1,none⟩=some (.int .i64 f.2))∧S4 w #[.slice h.s m.sT.length h.sc,.slice h.f m.fT.length h.fc,.slice h.r m.rT.length h.rc,.slice h.m m.mT.length h.mc,.slice h.l m.lT.length h.lc,.slice h.i m.iT.length h.ic,.int .i64 m.dT,.int .i64 m.oT,.int .i64 m.vT,.int .i64 m.aT,.slice h.u m.uT.length h.uc] #[.int .i64 x.kind,.int .i64 x.item,.int .i64 x.other,.int .i64 x.n,.int .i64 x.by_,.bool false,.slice A x.machines.length c] #[.slice Ap p.length cp] #[.int .i64 f.1,.int .i64 f.2] W)
  ((with_reducible (first|(go_keep;done)|exact⟨S4.cellsF HS.out.drew,HS.out.drew⟩|exact⟨S4.cellsF c7,c7⟩|(have hH:=(by assumption:_∧S4 _ _ _ _ _ _);exact⟨S4.cellsF (S4.drew hH.2),S4.drew hH.2⟩))))
  ((go_at_call 197;have hH:=And.intro (S4.cellsF HS.out.drew) HS.out.drew;(with_reducible refine(HSU.out _ hH.2.b).mono ?_);rintro e w5 ⟨v5,rfl,ho5,hb5⟩;obtain⟨A5,k5,rfl,_⟩:=ho5.form;have c7:=S4.grow hH.2 hb5;clear hH ho5))
 all_goals
  go_wp2_with fail
  go_ret
  exact⟨rfl,c7.b⟩
theorem Qr (h:MH) (m:AC) (x:AR) (A:Option Addr) (c:Nat) (Ap:Option Addr) (cp:Nat) (p:AA) (f:Int×Int) (w:World) (C:Eh w h m x A Ap p) (g0:(x.kind == 0)=false) (g1:(x.kind == 1)=true) (hal:x.always=true) :
    Calls Tryz.prog 133 #[.agg #[.slice h.s m.sT.length h.sc,.slice h.f m.fT.length h.fc,.slice h.r m.rT.length h.rc,.slice h.m m.mT.length h.mc,.slice h.l m.lT.length h.lc,.slice h.i m.iT.length h.ic,.int .i64 m.dT,.int .i64 m.oT,.int .i64 m.vT,.int .i64 m.aT,.slice h.u m.uT.length h.uc],.agg #[.int .i64 x.kind,.int .i64 x.item,.int .i64 x.other,.int .i64 x.n,.int .i64 x.by_,.bool x.always,.slice A x.machines.length c],.agg #[.slice Ap p.length cp],.agg #[.int .i64 f.1,.int .i64 f.2]] w (Ce w (.bool (decide (x.n≤((Bo m p (0,0) x.item).length:Int))))):=by
 have HS:=hide (S4.start w #[.slice h.s m.sT.length h.sc,.slice h.f m.fT.length h.fc,.slice h.r m.rT.length h.rc,.slice h.m m.mT.length h.mc,.slice h.l m.lT.length h.lc,.slice h.i m.iT.length h.ic,.int .i64 m.dT,.int .i64 m.oT,.int .i64 m.vT,.int .i64 m.aT,.slice h.u m.uT.length h.uc] #[.int .i64 x.kind,.int .i64 x.item,.int .i64 x.other,.int .i64 x.n,.int .i64 x.by_,.bool x.always,.slice A x.machines.length c] #[.slice Ap p.length cp] #[.int .i64 0,.int .i64 0])
 have HSU:=hide (fun W (hW:Below w.heap.size w W)=>Ff h m Ap cp p (0,0) x.item W (C.grow hW).d (C.grow hW).pr C.l C.u)
 have z1:=Nat.le_trans (Gp m p (0,0) x.item) (Bu p x.item 0)
 have zu:=C.u
 obtain⟨L1,h1⟩:∃ L,L=Bo m p (0,0) x.item:=⟨_,rfl⟩
 rw[← h1] at HSU z1 ⊢
 have y1:L1.length≤1000:=by omega
 simp only[hal] at HS ⊢
 clear h1 z1 zu C hal
 go_enter Tryz.func133,Tryz.ntmps133
 go_wp2_with fail
 go_region_held3 (fun W=>((W.cell? ⟨w.heap.size,0,none⟩=some (.slice h.s m.sT.length h.sc)∧W.cell? ⟨w.heap.size,1,none⟩=some (.slice h.f m.fT.length h.fc)∧W.cell? ⟨w.heap.size,2,none⟩=some (.slice h.r m.rT.length h.rc)∧W.cell? ⟨w.heap.size,3,none⟩=some (.slice h.m m.mT.length h.mc)∧W.cell? ⟨w.heap.size,4,none⟩=some (.slice h.l m.lT.length h.lc)∧W.cell? ⟨w.heap.size,5,none⟩=some (.slice h.i m.iT.length h.ic)∧W.cell? ⟨w.heap.size,6,none⟩=some (.int .i64 m.dT)∧W.cell? ⟨w.heap.size,7,none⟩=some (.int .i64 m.oT)∧W.cell? ⟨w.heap.size,8,none⟩=some (.int .i64 m.vT)∧W.cell? ⟨w.heap.size,9,none⟩=some (.int .i64 m.aT)∧W.cell? ⟨w.heap.size,10,none⟩=some (.slice h.u m.uT.length h.uc))∧(W.cell? ⟨w.heap.size+1,0,none⟩=some (.int .i64 x.kind)∧W.cell? ⟨w.heap.size+1,1,none⟩=some (.int .i64 x.item)∧W.cell? ⟨w.heap.size+1,2,none⟩=some (.int .i64 x.other)∧W.cell? ⟨w.heap.size+1,3,none⟩=some (.int .i64 x.n)∧W.cell? ⟨w.heap.size+1,4,none⟩=some (.int .i64 x.by_)∧W.cell? ⟨w.heap.size+1,5,none⟩=some (.bool true)∧W.cell? ⟨w.heap.size+1,6,none⟩=some (.slice A x.machines.length c))∧W.cell? ⟨w.heap.size+1+1,0,none⟩=some (.slice Ap p.length cp)∧W.cell? ⟨w.heap.size+1+1+1,0,none⟩=some (.int .i64 0)∧W.cell? ⟨w.heap.size+1+1+1,1,none⟩=some (.int .i64 0))∧S4 w #[.slice h.s m.sT.length h.sc,.slice h.f m.fT.length h.fc,.slice h.r m.rT.length h.rc,.slice h.m m.mT.length h.mc,.slice h.l m.lT.length h.lc,.slice h.i m.iT.length h.ic,.int .i64 m.dT,.int .i64 m.oT,.int .i64 m.vT,.int .i64 m.aT,.slice h.u m.uT.length h.uc] #[.int .i64 x.kind,.int .i64 x.item,.int .i64 x.other,.int .i64 x.n,.int .i64 x.by_,.bool true,.slice A x.machines.length c] #[.slice Ap p.length cp] #[.int .i64 0,.int .i64 0] W)
  ((with_reducible (first|(go_keep;done)|exact⟨S4.cellsT HS.out.drew,HS.out.drew⟩|exact⟨S4.cellsT c7,c7⟩|(have hH:=(by assumption:_∧S4 _ _ _ _ _ _);exact⟨S4.cellsT (S4.drew hH.2),S4.drew hH.2⟩))))
  ((go_at_call 197;have hH:=And.intro (S4.cellsT HS.out.drew) HS.out.drew;(with_reducible refine(HSU.out _ hH.2.b).mono ?_);rintro e w5 ⟨v5,rfl,ho5,hb5⟩;obtain⟨A5,k5,rfl,_⟩:=ho5.form;have c7:=S4.grow hH.2 hb5;clear hH ho5))
 all_goals
  go_wp2_with fail
  go_ret
  exact⟨rfl,c7.b⟩
theorem Rq (h:MH) (m:AC) (x:AR) (A:Option Addr) (c:Nat) (Ap:Option Addr) (cp:Nat) (p:AA) (f:Int×Int) (w:World) (C:Eh w h m x A Ap p) (g0:(x.kind == 0)=false) (g1:(x.kind == 1)=false) (g2:(x.kind == 2)=true) :
    Calls Tryz.prog 133 #[.agg #[.slice h.s m.sT.length h.sc,.slice h.f m.fT.length h.fc,.slice h.r m.rT.length h.rc,.slice h.m m.mT.length h.mc,.slice h.l m.lT.length h.lc,.slice h.i m.iT.length h.ic,.int .i64 m.dT,.int .i64 m.oT,.int .i64 m.vT,.int .i64 m.aT,.slice h.u m.uT.length h.uc],.agg #[.int .i64 x.kind,.int .i64 x.item,.int .i64 x.other,.int .i64 x.n,.int .i64 x.by_,.bool x.always,.slice A x.machines.length c],.agg #[.slice Ap p.length cp],.agg #[.int .i64 f.1,.int .i64 f.2]] w (Ce w (.bool (CU m x p == 0))):=by
 have HS:=hide (S4.start w #[.slice h.s m.sT.length h.sc,.slice h.f m.fT.length h.fc,.slice h.r m.rT.length h.rc,.slice h.m m.mT.length h.mc,.slice h.l m.lT.length h.lc,.slice h.i m.iT.length h.ic,.int .i64 m.dT,.int .i64 m.oT,.int .i64 m.vT,.int .i64 m.aT,.slice h.u m.uT.length h.uc] #[.int .i64 x.kind,.int .i64 x.item,.int .i64 x.other,.int .i64 x.n,.int .i64 x.by_,.bool x.always,.slice A x.machines.length c] #[.slice Ap p.length cp] #[.int .i64 f.1,.int .i64 f.2])
 have HC:=hide (Nc h m x A c Ap cp p _ (C.grow HS.out.b).d (C.grow HS.out.b).pr C.l C.u C.dm)
 obtain⟨v,hv⟩:∃ v,v=CU m x p:=⟨_,rfl⟩
 rw[← hv] at HC ⊢
 clear hv C
 go_enter Tryz.func133,Tryz.ntmps133
 go_wp2_with (go_at_call 199;refine HC.out.mono ?_;rintro e w1 ⟨rfl,hb1⟩)
 go_ret
 exact⟨rfl,HS.out.b.trans (hb1.mono HS.out.b.size)⟩
theorem Rs (h:MH) (m:AC) (x:AR) (A:Option Addr) (c:Nat) (Ap:Option Addr) (cp:Nat) (p:AA) (f:Int×Int) (w:World) (C:Eh w h m x A Ap p) (g0:(x.kind == 0)=false) (g1:(x.kind == 1)=false) (g2:(x.kind == 2)=false) (g3:(x.kind == 3)=true) :
    Calls Tryz.prog 133 #[.agg #[.slice h.s m.sT.length h.sc,.slice h.f m.fT.length h.fc,.slice h.r m.rT.length h.rc,.slice h.m m.mT.length h.mc,.slice h.l m.lT.length h.lc,.slice h.i m.iT.length h.ic,.int .i64 m.dT,.int .i64 m.oT,.int .i64 m.vT,.int .i64 m.aT,.slice h.u m.uT.length h.uc],.agg #[.int .i64 x.kind,.int .i64 x.item,.int .i64 x.other,.int .i64 x.n,.int .i64 x.by_,.bool x.always,.slice A x.machines.length c],.agg #[.slice Ap p.length cp],.agg #[.int .i64 f.1,.int .i64 f.2]] w (Ce w (.bool (BC x p).isNone)):=by
 have HS:=hide (S4.start w #[.slice h.s m.sT.length h.sc,.slice h.f m.fT.length h.fc,.slice h.r m.rT.length h.rc,.slice h.m m.mT.length h.mc,.slice h.l m.lT.length h.lc,.slice h.i m.iT.length h.ic,.int .i64 m.dT,.int .i64 m.oT,.int .i64 m.vT,.int .i64 m.aT,.slice h.u m.uT.length h.uc] #[.int .i64 x.kind,.int .i64 x.item,.int .i64 x.other,.int .i64 x.n,.int .i64 x.by_,.bool x.always,.slice A x.machines.length c] #[.slice Ap p.length cp] #[.int .i64 f.1,.int .i64 f.2])
 have HC:=hide (Lp x A c Ap cp p _ (C.grow HS.out.b).pr C.l C.u (C.grow HS.out.b).i C.il)
 obtain⟨v,hv⟩:∃ v,v=BC x p:=⟨_,rfl⟩
 rw[← hv] at HC ⊢
 clear hv C
 go_enter Tryz.func133,Tryz.ntmps133
 go_wp2_with (go_at_call 200;refine HC.out.mono ?_;rintro e w1 ⟨rfl,hb1⟩)
 go_ret
 exact⟨rfl,HS.out.b.trans (hb1.mono HS.out.b.size)⟩
theorem Rt (h:MH) (m:AC) (x:AR) (A:Option Addr) (c:Nat) (Ap:Option Addr) (cp:Nat) (p:AA) (f:Int×Int) (w:World) (g0:(x.kind == 0)=false) (g1:(x.kind == 1)=false) (g2:(x.kind == 2)=false) (g3:(x.kind == 3)=false) :
    Calls Tryz.prog 133 #[.agg #[.slice h.s m.sT.length h.sc,.slice h.f m.fT.length h.fc,.slice h.r m.rT.length h.rc,.slice h.m m.mT.length h.mc,.slice h.l m.lT.length h.lc,.slice h.i m.iT.length h.ic,.int .i64 m.dT,.int .i64 m.oT,.int .i64 m.vT,.int .i64 m.aT,.slice h.u m.uT.length h.uc],.agg #[.int .i64 x.kind,.int .i64 x.item,.int .i64 x.other,.int .i64 x.n,.int .i64 x.by_,.bool x.always,.slice A x.machines.length c],.agg #[.slice Ap p.length cp],.agg #[.int .i64 f.1,.int .i64 f.2]] w (Ce w (.bool true)):=by
 have HS:=hide (S4.start w #[.slice h.s m.sT.length h.sc,.slice h.f m.fT.length h.fc,.slice h.r m.rT.length h.rc,.slice h.m m.mT.length h.mc,.slice h.l m.lT.length h.lc,.slice h.i m.iT.length h.ic,.int .i64 m.dT,.int .i64 m.oT,.int .i64 m.vT,.int .i64 m.aT,.slice h.u m.uT.length h.uc] #[.int .i64 x.kind,.int .i64 x.item,.int .i64 x.other,.int .i64 x.n,.int .i64 x.by_,.bool x.always,.slice A x.machines.length c] #[.slice Ap p.length cp] #[.int .i64 f.1,.int .i64 f.2])
 go_enter Tryz.func133,Tryz.ntmps133
 go_wp2_with fail
 go_ret
 exact⟨rfl,HS.out.b⟩
theorem Nw (h:MH) (m:AC) (x:AR) (A:Option Addr) (c:Nat) (Ap:Option Addr) (cp:Nat) (p:AA) (f:Int×Int) (w:World) (C:Eh w h m x A Ap p) :
    Calls Tryz.prog 133 #[.agg #[.slice h.s m.sT.length h.sc,.slice h.f m.fT.length h.fc,.slice h.r m.rT.length h.rc,.slice h.m m.mT.length h.mc,.slice h.l m.lT.length h.lc,.slice h.i m.iT.length h.ic,.int .i64 m.dT,.int .i64 m.oT,.int .i64 m.vT,.int .i64 m.aT,.slice h.u m.uT.length h.uc],.agg #[.int .i64 x.kind,.int .i64 x.item,.int .i64 x.other,.int .i64 x.n,.int .i64 x.by_,.bool x.always,.slice A x.machines.length c],.agg #[.slice Ap p.length cp],.agg #[.int .i64 f.1,.int .i64 f.2]] w (Ce w (.bool (Bf m x p f))):=by
 unfold Bf
 by_cases h0:x.kind=0
 · rw[if_pos h0,show decide ((Af p x.item 0).length<2*(Bo m p f x.item).length)=decide (((Af p x.item 0).length:Int)<2*((Bo m p f x.item).length:Int)) by rw[decide_eq_decide];omega];exact Rp h m x A c Ap cp p f w C (by simpa using h0)
 rw[if_neg h0]
 by_cases h1:x.kind=1
 · rw [if_pos h1]
   cases hal:x.always
   · have:=Qq h m x A c Ap cp p f w C (by simpa using h0) (by simpa using h1) hal
     simpa[hal] using this
   · have:=Qr h m x A c Ap cp p f w C (by simpa using h0) (by simpa using h1) hal
     simpa[hal] using this
 rw[if_neg h1]
 by_cases h2:x.kind=2
 · rw[if_pos h2,show decide (CU m x p=0)=(CU m x p == 0) by rw[Bool.eq_iff_iff];simp]
   exact Rq h m x A c Ap cp p f w C (by simpa using h0) (by simpa using h1) (by simpa using h2)
 rw[if_neg h2]
 by_cases h3:x.kind=3
 · rw[if_pos h3,show decide (BC x p=none)=(BC x p).isNone by cases BC x p <;> simp]
   exact Rs h m x A c Ap cp p f w C (by simpa using h0) (by simpa using h1) (by simpa using h2) (by simpa using h3)
 rw[if_neg h3]
 exact Rt h m x A c Ap cp p f w (by simpa using h0) (by simpa using h1) (by simpa using h2) (by simpa using h3)
theorem CP.ne {B g:Nat} {w:World} {v:Value} {l:List (Int×Int)} {T:TypeId} {cs:Array Value} (h:CP B w v l) (hb:AB w g T cs) (hne:T≠109):v.ownBlock≠some g:=by
 rintro e
 rcases h.2 with⟨rfl,_⟩|⟨g2,cap,cur,rfl,_,hh,_⟩
 · cases e
 · obtain rfl:g2=g:=Option.some.inj e
   rw[AB] at hb
   have:=hb.symm.trans hh
   simp at this
   exact hne this.2
theorem CP.lt{B:Nat}{w:World}{v:Value}{l:List (Int×Int)}(h:CP B w v l):∀ k,v.ownBlock=some k→B≤k∧k<w.heap.size:=World.ownsRow.lt h
theorem CP.below {B:Nat} {w w':World} {v:Value} {l:List (Int×Int)} (h:CP B w v l) (hb:Below w.heap.size w w'):CP B w' v l:=by
 refine⟨h.1,?_⟩
 rcases h.2 with h0|⟨g,cap,cur,e,hB,hh,h4⟩
 · exact .inl h0
 · exact .inr ⟨g,cap,cur,e,hB,AB.below hh hb (AB.lt hh),h4⟩
theorem CP.one (w:World) {B:Nat} (hB:B≤w.heap.size) (x:Int×Int):CP B (w.alloc (.cells #[.int .i64 x.1,.int .i64 x.2] 109)) (.slice (some ⟨w.heap.size,0,none⟩) 1 1) [x]:=by
 have:=World.ownsRow_lit (e:=109) (size:=2) w #[.int .i64 x.1,.int .i64 x.2] 1 hB (by decide) (by simp)
 simpa[CP,AL] using this
theorem NU {ops:Array Oper} {rest:List Oper} {o:Oper} {a:Act} {Q:Exit→Act→World→Prop} {w:World} (hgd:o.guard=none) (s x:Operand)
    (ho:o.op=.call { callee:=.builtin .append,args:=#[s,x],argTypes:=#[107,107] })
    (base:Nat) (v:Value) (l:List (Int×Int)) (hs:a.eval s=v) (hown:CP base w v l)
    (B:Nat) (A:Option Addr) (c:Nat) (b:Int×Int) (hx:a.eval x=.slice A 1 c) (hr:Reads w B 2 A 1 (AL [b]))
    (hlen:l.length+1≤1000000) (hbase:base≤w.heap.size)
    (h:∀ v' w',CP base w' v' (l ++ [b])→w.grownBy w' v.ownBlock→wpList Tryz.prog ops Q rest (a.put o.dst v') w'):wpList Tryz.prog ops Q (o :: rest) a w:=by
 obtain⟨i0,hi,hz0,hz1,hz2⟩:=info_parts Si
 refine wpList_plain hgd fun _ hK=>BZ w s x 107 ho base 109 i0 _ 2 16 Tryz.underlying107 hi hz0 hz1 hz2 rfl (by omega) v l.length (AL l) hs hown B A 1 c (AL [b]) hx hr (Cb [b]) (by unfold maxLen;omega) (by omega) hbase
  fun v' w' h2 h3 _=>hK _ _ (h v' w' ?_ h3)
 unfold CP;rw[DR,List.length_append];exact h2
theorem TV (w:World) (a b:Int):Reads (w.alloc (.cells #[.int .i64 a,.int .i64 b] 109)) (w.heap.size+1) 2 (some ⟨w.heap.size,0,none⟩) 1 (AL [(a,b)]) :=
 ⟨rfl,fun _=>⟨_,rfl,by simp,fun j u hu=>by rw[BA,Nat.zero_add,CZ];simpa[AL] using hu⟩⟩
def Jl(k:Nat):Int:=if k=0 then 1 else if k=1 then 2 else 4
theorem Sn (n j:Nat):n &&& 2 ^ j=(n.testBit j).toNat*2 ^ j:=by
 apply Nat.eq_of_testBit_eq
 intro i
 rw[Nat.testBit_and,Nat.testBit_two_pow]
 cases h:n.testBit j
 · simp;intro h1 h2;subst h2;rw[h] at h1;cases h1
 · simp[Nat.testBit_two_pow];intro e;subst e;exact h
theorem Sr (f:Int) (k:Nat) (hk:k<3):(bits BinOp.and IntKind.i64 f (Jl k)≠0)↔(f / 2 ^ k) % 2=1:=by
 have main:∀ (j:Nat) (d:Int),(BitVec.ofInt 64 d).toNat=2 ^ j→j<3→(bits BinOp.and IntKind.i64 f d≠0↔(f / 2 ^ j) % 2=1):=fun j d hd hj=>by
  have e:(BitVec.ofInt 64 f &&& BitVec.ofInt 64 d).toNat=((f % 2 ^ 64).toNat.testBit j).toNat*2 ^ j:=by
   rw[BitVec.toNat_and,BitVec.toNat_ofInt,hd,Sn]
   rfl
  have hb:(f % 2 ^ 64).toNat.testBit j=decide ((f / 2 ^ j) % 2=1):=by
   rw[Nat.testBit_eq_decide_div_mod_eq,decide_eq_decide]
   rcases (by omega:j=0∨j=1∨j=2) with rfl|rfl|rfl <;> simp <;> omega
  show IntKind.i64.wrap ((BitVec.ofInt 64 f &&& BitVec.ofInt 64 d).toNat:Int)≠0↔_
  rw[e,hb,IntKind.wrap_i64]
  by_cases h:f / 2 ^ j % 2=1
  · rw[decide_eq_true h]
    rcases (by omega:j=0∨j=1∨j=2) with rfl|rfl|rfl <;> exact iff_of_true (by decide) h
  · rw[decide_eq_false h]
    rcases (by omega:j=0∨j=1∨j=2) with rfl|rfl|rfl <;> exact iff_of_false (by decide) h
 rcases (by omega:k=0∨k=1∨k=2) with rfl|rfl|rfl
 · exact main 0 1 rfl (by omega)
 · exact main 1 2 rfl (by omega)
 · exact main 2 4 rfl (by omega)
structure Cr (w:World) (h:MH) (m:AC) (W:World):Prop where
 b:Below w.heap.size w W
 mo:AB W w.heap.size 29 #[.slice h.s m.sT.length h.sc,.slice h.f m.fT.length h.fc,.slice h.r m.rT.length h.rc,.slice h.m m.mT.length h.mc,.slice h.l m.lT.length h.lc,.slice h.i m.iT.length h.ic,.int .i64 m.dT,.int .i64 m.oT,.int .i64 m.vT,.int .i64 m.aT,.slice h.u m.uT.length h.uc]
 bi:AB W (w.heap.size+1+1) 3 #[.int .i64 1,.int .i64 2,.int .i64 4]
 ki:AB W (w.heap.size+1+1+1) 3 #[.int .i64 1,.int .i64 2,.int .i64 3]
theorem Cr.grow{w:World}{h:MH}{m:AC}{W W':World}(s:Cr w h m W)(hb:Below W.heap.size W W'):Cr w h m W':=⟨s.b.trans (hb.mono s.b.size),s.mo.below hb s.mo.lt,s.bi.below hb s.bi.lt,s.ki.below hb s.ki.lt⟩
theorem Cr.drew{w:World}{h:MH}{m:AC}{W:World}(s:Cr w h m W):Cr w h m W.drew:=s.grow (Below.refl _ W).drew
theorem Cr.appended {w:World} {h:MH} {m:AC} {W W':World} {v:Value} {l:List (Int×Int)} (s:Cr w h m W) (ho:CP w.heap.size W v l) (hg:W.grownBy W' v.ownBlock):Cr w h m W' :=
 ⟨s.b.grown hg s.b.size (fun g e=>(ho.lt g e).1),s.mo.grown hg (fun e=>ho.ne s.mo (by decide) e.symm),s.bi.grown hg (fun e=>ho.ne s.bi (by decide) e.symm),s.ki.grown hg (fun e=>ho.ne s.ki (by decide) e.symm)⟩
theorem Cr.at_ {w:World} {h:MH} {m:AC} {W:World} (s:Cr w h m W) {k:Nat} (hk:k<3):(W.cell? ⟨w.heap.size,0,none⟩=some (.slice h.s m.sT.length h.sc)∧W.cell? ⟨w.heap.size,1,none⟩=some (.slice h.f m.fT.length h.fc)∧W.cell? ⟨w.heap.size,2,none⟩=some (.slice h.r m.rT.length h.rc)∧W.cell? ⟨w.heap.size,3,none⟩=some (.slice h.m m.mT.length h.mc)∧W.cell? ⟨w.heap.size,4,none⟩=some (.slice h.l m.lT.length h.lc)∧W.cell? ⟨w.heap.size,5,none⟩=some (.slice h.i m.iT.length h.ic)∧W.cell? ⟨w.heap.size,6,none⟩=some (.int .i64 m.dT)∧W.cell? ⟨w.heap.size,7,none⟩=some (.int .i64 m.oT)∧W.cell? ⟨w.heap.size,8,none⟩=some (.int .i64 m.vT)∧W.cell? ⟨w.heap.size,9,none⟩=some (.int .i64 m.aT)∧W.cell? ⟨w.heap.size,10,none⟩=some (.slice h.u m.uT.length h.uc))∧W.cell? ⟨w.heap.size+1+1,k,none⟩=some (.int .i64 (Jl k))∧W.cell? ⟨w.heap.size+1+1+1,k,none⟩=some (.int .i64 ((k:Int)+1)):=by
 refine⟨MB.cells s.mo,?_,?_⟩
 · rw[s.bi.cell];have:k=0∨k=1∨k=2:=by omega
   rcases this with rfl|rfl|rfl <;> rfl
 · rw[s.ki.cell];have:k=0∨k=1∨k=2:=by omega
   rcases this with rfl|rfl|rfl <;> rfl
def VK(w:World)(h:MH)(m:AC)(v i:Value)(wr:World):Prop:=∃ k:Nat,k≤3∧i=.int .i64 k∧Hid (CP w.heap.size wr v (CW m k 0)∧Cr w h m wr)
def VL(w:World)(h:MH)(m:AC)(k:Nat)(v i:Value)(wr:World):Prop:=∃ q:Nat,(q:Int)≤AZ m ((k:Int)+1)∧i=.int .i64 ((q:Int)+1)∧Hid (CP w.heap.size wr v (CW m k q)∧Cr w h m wr)
theorem Q7 (m:AC) (k q:Nat) (h:GD m k=false):CW m k q=CW m (k+1) 0:=by
 rw[← I9]
 simp[CW,D9,h]
theorem LF (h : MH) (m : AC) (l0 : m.mT.length ≤ 100) (l1 : m.rT.length ≤ 100) (l2 : m.fT.length ≤ 100) (l3 : m.sT.length≤100) (w:World) :
    Calls Tryz.prog 196 #[.agg #[.slice h.s m.sT.length h.sc,.slice h.f m.fT.length h.fc,.slice h.r m.rT.length h.rc,.slice h.m m.mT.length h.mc,.slice h.l m.lT.length h.lc,.slice h.i m.iT.length h.ic,.int .i64 m.dT,.int .i64 m.oT,.int .i64 m.vT,.int .i64 m.aT,.slice h.u m.uT.length h.uc]] w (Ej w (EW m)):=by
 obtain⟨w0,e0⟩:∃ w0,w0=(((w.alloc (.cells #[.slice h.s m.sT.length h.sc,.slice h.f m.fT.length h.fc,.slice h.r m.rT.length h.rc,.slice h.m m.mT.length h.mc,.slice h.l m.lT.length h.lc,.slice h.i m.iT.length h.ic,.int .i64 m.dT,.int .i64 m.oT,.int .i64 m.vT,.int .i64 m.aT,.slice h.u m.uT.length h.uc] 29)).alloc (.cells #[.int .i64 0,.int .i64 0] 109)).alloc (.cells #[.int .i64 1,.int .i64 2,.int .i64 4] 3)).alloc (.cells #[.int .i64 1,.int .i64 2,.int .i64 3] 3):=⟨_,rfl⟩
 have HA:=hide (show Cr w h m w0 by
  obtain⟨w1,e1⟩:∃ w1,w1=w.alloc (.cells #[.slice h.s m.sT.length h.sc,.slice h.f m.fT.length h.fc,.slice h.r m.rT.length h.rc,.slice h.m m.mT.length h.mc,.slice h.l m.lT.length h.lc,.slice h.i m.iT.length h.ic,.int .i64 m.dT,.int .i64 m.oT,.int .i64 m.vT,.int .i64 m.aT,.slice h.u m.uT.length h.uc] 29):=⟨_,rfl⟩
  obtain⟨w2,e2⟩:∃ w2,w2=w1.alloc (.cells #[.int .i64 0,.int .i64 0] 109):=⟨_,rfl⟩
  obtain⟨w3,e3⟩:∃ w3,w3=w2.alloc (.cells #[.int .i64 1,.int .i64 2,.int .i64 4] 3):=⟨_,rfl⟩
  have s1:w1.heap.size=w.heap.size+1:=by rw[e1];simp
  have s2:w2.heap.size=w.heap.size+1+1:=by rw[e2];simp[s1]
  have s3:w3.heap.size=w.heap.size+1+1+1:=by rw[e3];simp[s2]
  rw[e0,← e1,← e2,← e3]
  refine⟨?_,?_,?_,?_⟩
  · rw[e3,e2,e1];exact((((Below.refl w.heap.size w).alloc (Nat.le_refl _) _).alloc (by simp) _).alloc (by simp <;> omega) _).alloc (by simp <;> omega) _
  · rw[e3,e2,e1];exact(((AB.new w _ _).alloc _).alloc _).alloc _
  · rw[e3,← s2];exact(AB.new w2 _ _).alloc _
  · rw[← s3];exact AB.new w3 _ _)
 have HO:=hide (show CP w.heap.size w0 (.slice (some ⟨w.heap.size+1,0,none⟩) 1 1) (CW m 0 0) by
  rw[e0,LZ]
  have h1:=CP.one (w.alloc (.cells #[.slice h.s m.sT.length h.sc,.slice h.f m.fT.length h.fc,.slice h.r m.rT.length h.rc,.slice h.m m.mT.length h.mc,.slice h.l m.lT.length h.lc,.slice h.i m.iT.length h.ic,.int .i64 m.dT,.int .i64 m.oT,.int .i64 m.vT,.int .i64 m.aT,.slice h.u m.uT.length h.uc] 29)) (B:=w.heap.size) (by simp) (0,0)
  rw[World.size_alloc] at h1
  exact h1.below (((Below.refl _ _).alloc (Nat.le_refl _) _).alloc (by simp) _))
 have HDM:=hide (fun(k:Nat) W=>CO h m ((k:Int)+1) W)
 have HDB := hide (fun (k : Nat) => (show 0 ≤ AZ m ((k : Int) + 1) ∧ AZ m ((k : Int) + 1) ≤ 100 from ⟨Cw _ _, by unfold AZ;repeat' split
                                                                                                                 all_goals omega⟩))
 have HE:=hide e0
 clear e0
 go_enter Tryz.func196,Tryz.ntmps196
 go_wp2_with fail
 rw[← HE.out]
 go_loopw [3,6] (fun v i wr=>VK w h m v i wr) (fun _ i _=>3 - (intOf i).toNat)
 case atStart=>exact⟨0,Nat.zero_le _,rfl,HO.out,HA.out⟩
 case round =>
  clear HO HA
  obtain⟨k,hk,rfl,hS⟩:=hrel
  by_cases hlt:k<3
  · have HLK:=hide hlt
    have hkI:(k:Int)<3:=by omega
    obtain⟨D,hD⟩:∃ D:Nat,AZ m ((k:Int)+1)=(D:Int):=⟨(AZ m ((k:Int)+1)).toNat,by have:=(HDB.out k).1;omega⟩
    have HDD:=hide hD
    have hD100:D≤100:=by have:=(HDB.out k).2;omega
    have HDM:=hide (HDM.out k)
    rw[hD] at HDM
    have HBA:=hide (Sr m.aT k hlt)
    clear hD
    go_wp2_with fail
    go_loopw [3,7] (fun v i wr=>VL w h m k v i wr) (fun _ i _=>D+1 - (intOf i).toNat)
    case atStart=>exact⟨0,by rw[HDD.out];omega,rfl,hS⟩
    case round =>
     clear hS
     obtain⟨q,hq,rfl,hS⟩:=hrel
     rw[HDD.out] at hq
     have HS:=hide hS.out.2
     obtain⟨⟨a0,a1,a2,a3,a4,a5,a6,a7,a8,a9,a10⟩,b0,k0⟩:=HS.out.at_ hlt
     have al:=HS.out.mo.lt
     have bl:=HS.out.bi.lt
     have kl:=HS.out.ki.lt
     have hq100:q≤100:=by omega
     have hk0:(0:Int)≤(k:Int):=by omega
     by_cases hqD:q<D
     · have hqI : (q : Int) + 1 ≤ (D : Int):=by omega
       cases eb:GD m k
       · have hz:(bits BinOp.and IntKind.i64 m.aT (Jl k) == 0)=true:=by
           have:=HBA.out
           simp only[GD,decide_eq_false_iff_not] at eb
           simpa using fun h2=>eb (this.1 h2)
         have HP:=hide (Q7 m k q eb)
         clear eb
         go_wp2_with fail
         go_region_held3 (fun W=>((W.cell? ⟨w.heap.size,0,none⟩=some (.slice h.s m.sT.length h.sc)∧W.cell? ⟨w.heap.size,1,none⟩=some (.slice h.f m.fT.length h.fc)∧W.cell? ⟨w.heap.size,2,none⟩=some (.slice h.r m.rT.length h.rc)∧W.cell? ⟨w.heap.size,3,none⟩=some (.slice h.m m.mT.length h.mc)∧W.cell? ⟨w.heap.size,4,none⟩=some (.slice h.l m.lT.length h.lc)∧W.cell? ⟨w.heap.size,5,none⟩=some (.slice h.i m.iT.length h.ic)∧W.cell? ⟨w.heap.size,6,none⟩=some (.int .i64 m.dT)∧W.cell? ⟨w.heap.size,7,none⟩=some (.int .i64 m.oT)∧W.cell? ⟨w.heap.size,8,none⟩=some (.int .i64 m.vT)∧W.cell? ⟨w.heap.size,9,none⟩=some (.int .i64 m.aT)∧W.cell? ⟨w.heap.size,10,none⟩=some (.slice h.u m.uT.length h.uc))∧W.cell? ⟨w.heap.size+1+1,k,none⟩=some (.int .i64 (Jl k))∧W.cell? ⟨w.heap.size+1+1+1,k,none⟩=some (.int .i64 ((k:Int)+1)))∧Cr w h m W)
          ((with_reducible (first|(go_keep;done)|exact⟨Cr.at_ HS.out.drew HLK.out,HS.out.drew⟩|exact⟨Cr.at_ c7 HLK.out,c7⟩|(have hH:=(by assumption:_∧Cr _ _ _ _);exact⟨Cr.at_ (Cr.drew hH.2) HLK.out,Cr.drew hH.2⟩))))
          (((with_reducible refine(HDM.out _).mono ?_);rintro e w5 ⟨rfl,hb5⟩;have c7:=Cr.grow HS.out.drew hb5))
         have HO5:=hide (hS.out.1.below ((Below.refl _ _).drew.trans hb5))
         go_wp2_with fail
         go_roundw
         case rel=>exact⟨k+1,by have:=HLK.out;omega,by go_num,hide ⟨by rw[← HP.out];exact HO5.out,c7⟩⟩
         case measure=>have:=HLK.out;simp[intOf];omega
       · have hz : (bits BinOp.and IntKind.i64 m.aT (Jl k) == 0)=false:=by
           have:=HBA.out
           simp only[GD,decide_eq_true_eq] at eb
           simpa using this.2 eb
         have HP:=hide (ND m k q eb)
         have hpl := NC m 100 (fun i => by have:=Cw m i;unfold AZ;repeat' split
                                           all_goals omega) k q (by omega) hq100
         obtain⟨L,hL⟩:∃ L,L=CW m k q:=⟨_,rfl⟩
         rw[← hL] at hS HP hpl
         clear eb hL
         go_wp2_with fail
         go_region_held3 (fun W=>((W.cell? ⟨w.heap.size,0,none⟩=some (.slice h.s m.sT.length h.sc)∧W.cell? ⟨w.heap.size,1,none⟩=some (.slice h.f m.fT.length h.fc)∧W.cell? ⟨w.heap.size,2,none⟩=some (.slice h.r m.rT.length h.rc)∧W.cell? ⟨w.heap.size,3,none⟩=some (.slice h.m m.mT.length h.mc)∧W.cell? ⟨w.heap.size,4,none⟩=some (.slice h.l m.lT.length h.lc)∧W.cell? ⟨w.heap.size,5,none⟩=some (.slice h.i m.iT.length h.ic)∧W.cell? ⟨w.heap.size,6,none⟩=some (.int .i64 m.dT)∧W.cell? ⟨w.heap.size,7,none⟩=some (.int .i64 m.oT)∧W.cell? ⟨w.heap.size,8,none⟩=some (.int .i64 m.vT)∧W.cell? ⟨w.heap.size,9,none⟩=some (.int .i64 m.aT)∧W.cell? ⟨w.heap.size,10,none⟩=some (.slice h.u m.uT.length h.uc))∧W.cell? ⟨w.heap.size+1+1,k,none⟩=some (.int .i64 (Jl k))∧W.cell? ⟨w.heap.size+1+1+1,k,none⟩=some (.int .i64 ((k:Int)+1)))∧Cr w h m W)
          ((with_reducible (first|(go_keep;done)|exact⟨Cr.at_ HS.out.drew HLK.out,HS.out.drew⟩|exact⟨Cr.at_ c7 HLK.out,c7⟩|(have hH:=(by assumption:_∧Cr _ _ _ _);exact⟨Cr.at_ (Cr.drew hH.2) HLK.out,Cr.drew hH.2⟩))))
          (((with_reducible refine(HDM.out _).mono ?_);rintro e w5 ⟨rfl,hb5⟩;have c7:=Cr.grow HS.out.drew hb5))
         have HO5:=hide (hS.out.1.below ((Below.refl _ _).drew.trans hb5))
         obtain⟨-,-,z0⟩:=Cr.at_ c7 HLK.out
         have zl:=c7.ki.lt
         have hb6:Below w5.heap.size w5 (w5.alloc (.cells #[.int .i64 ((k:Int)+1),.int .i64 ((q:Int)+1)] 109)):=(Below.refl _ _).alloc (Nat.le_refl _) _
         have HS6:=hide (c7.grow hb6)
         have HO6:=hide (HO5.out.below hb6)
         have HR6:=hide (TV w5 ((k:Int)+1) ((q:Int)+1))
         have hll:L.length+1≤1000000:=by omega
         clear c7 hb5 hb6
         go_wp2_with (at_builtin;refine NU rfl _ _ rfl w.heap.size _ L rfl HO6.out _ _ _ ((k:Int)+1,(q:Int)+1) rfl HR6.out hll HS6.out.b.size ?_;intro v3 w6 ho3 hg3;have ho3:=hide ho3;have hg3:=hide hg3)
         have hs7:=HS6.out.appended HO6.out hg3.out
         go_roundw
         case rel=>exact⟨q+1,by rw[HDD.out];omega,by go_num,hide ⟨by rw[HP.out];exact ho3.out,hs7⟩⟩
         case measure=>simp[intOf];omega
     · obtain rfl:q=D:=by omega
       have HP:=hide (I9 m k)
       rw[HDD.out] at HP
       have hqI:¬ ((q:Int)+1≤(q:Int)):=by omega
       have hqd:decide ((q:Int)+1≤(q:Int))=false:=decide_eq_false hqI
       go_wp2_with fail
       refine wp_region_held_drew (S:=(fun W=>((W.cell? ⟨w.heap.size,0,none⟩=some (.slice h.s m.sT.length h.sc)∧W.cell? ⟨w.heap.size,1,none⟩=some (.slice h.f m.fT.length h.fc)∧W.cell? ⟨w.heap.size,2,none⟩=some (.slice h.r m.rT.length h.rc)∧W.cell? ⟨w.heap.size,3,none⟩=some (.slice h.m m.mT.length h.mc)∧W.cell? ⟨w.heap.size,4,none⟩=some (.slice h.l m.lT.length h.lc)∧W.cell? ⟨w.heap.size,5,none⟩=some (.slice h.i m.iT.length h.ic)∧W.cell? ⟨w.heap.size,6,none⟩=some (.int .i64 m.dT)∧W.cell? ⟨w.heap.size,7,none⟩=some (.int .i64 m.oT)∧W.cell? ⟨w.heap.size,8,none⟩=some (.int .i64 m.vT)∧W.cell? ⟨w.heap.size,9,none⟩=some (.int .i64 m.aT)∧W.cell? ⟨w.heap.size,10,none⟩=some (.slice h.u m.uT.length h.uc))∧W.cell? ⟨w.heap.size+1+1,k,none⟩=some (.int .i64 (Jl k))∧W.cell? ⟨w.heap.size+1+1+1,k,none⟩=some (.int .i64 ((k:Int)+1)))∧Cr w h m W)) (by kernel_rfl) (⟨Cr.at_ HS.out.drew HLK.out,HS.out.drew⟩) (fun hHeld=>?_)
       refine wpAnyH_take (i:=0) (oi:=_) (v:=?_) rfl (by kernel_rfl) (by kernel_rfl) (by kernel_rfl) (fun _ _ _ h=>h) (Or.inl ⟨by rfl,?_⟩) hHeld ?_
       rotate_left
       · intro W hSw;(try dsimp only at hSw);go_simp;try with_reducible rfl
       simp only[Act.put,List.getElem_toArray,List.getElem_cons_zero,List.setIfInBounds_toArray,List.set_cons_zero,List.set_cons_succ]
       refine wpAnyH_take (i:=1) (oi:=_) (v:=?_) rfl (by kernel_rfl) (by kernel_rfl) (by kernel_rfl) (fun _ _ _ h=>h) (Or.inl ⟨by rfl,?_⟩) hHeld ?_
       rotate_left
       · intro W hSw;(try dsimp only at hSw);go_simp;try with_reducible rfl
       simp only[Act.put,List.getElem_toArray,List.getElem_cons_succ,List.getElem_cons_zero,List.setIfInBounds_toArray,List.set_cons_zero,List.set_cons_succ]
       refine wpAnyH_take (i:=2) (oi:=_) (v:=?_) rfl (by kernel_rfl) (by kernel_rfl) (by kernel_rfl) (fun _ _ _ h=>h) (Or.inl ⟨by rfl,?_⟩) hHeld ?_
       rotate_left
       · intro W hSw;(try dsimp only at hSw);go_simp;try with_reducible rfl
       simp only[Act.put,List.getElem_toArray,List.getElem_cons_succ,List.getElem_cons_zero,List.setIfInBounds_toArray,List.set_cons_zero,List.set_cons_succ]
       refine wpAnyH_take (i:=3) (oi:=_) (v:=?_) rfl (by kernel_rfl) (by kernel_rfl) (by kernel_rfl) (fun _ _ _ h=>h) (Or.inl ⟨by rfl,?_⟩) hHeld ?_
       rotate_left
       · intro W hSw;(try dsimp only at hSw);go_simp;try with_reducible rfl
       simp only[Act.put,List.getElem_toArray,List.getElem_cons_succ,List.getElem_cons_zero,List.setIfInBounds_toArray,List.set_cons_zero,List.set_cons_succ]
       refine wpAnyH_take (i:=4) (oi:=_) (v:=?_) rfl (by kernel_rfl) (by kernel_rfl) (by kernel_rfl) (fun _ _ _ h=>h) (Or.inl ⟨by rfl,?_⟩) hHeld ?_
       rotate_left
       · intro W hSw;(try dsimp only at hSw);go_simp;try with_reducible rfl
       simp only[Act.put,List.getElem_toArray,List.getElem_cons_succ,List.getElem_cons_zero,List.setIfInBounds_toArray,List.set_cons_zero,List.set_cons_succ]
       refine wpAnyH_take (i:=5) (oi:=_) (v:=?_) rfl (by kernel_rfl) (by kernel_rfl) (by kernel_rfl) (fun _ _ _ h=>h) (Or.inl ⟨by rfl,?_⟩) hHeld ?_
       rotate_left
       · intro W hSw;(try dsimp only at hSw);go_simp;try with_reducible rfl
       simp only[Act.put,List.getElem_toArray,List.getElem_cons_succ,List.getElem_cons_zero,List.setIfInBounds_toArray,List.set_cons_zero,List.set_cons_succ]
       refine wpAnyH_ready (rs:=[6]) (by kernel_rfl) (by simp) ?_
       refine AllReadyH.cons rfl (fun K hK=>?_) AllReadyH.nil
       go_simp
       (with_reducible refine(HDM.out _).mono ?_);rintro e w5 ⟨rfl,hb5⟩;have c7:=Cr.grow HS.out.drew hb5
       dsimp only
       refine hK.out _ _ (⟨Cr.at_ c7 HLK.out,c7⟩) (fun hHeld=>?_)
       clear hK K
       refine wpAnyH_take (i:=7) (oi:=_) (v:=(.bool false)) rfl (by kernel_rfl) (by kernel_rfl) (by kernel_rfl) (fun _ _ _ h=>h) (Or.inl ⟨by rfl,?_⟩) hHeld ?_
       · intro W hSw;(try dsimp only at hSw);go_simp
       simp only[Act.put,List.getElem_toArray,List.getElem_cons_succ,List.getElem_cons_zero,List.setIfInBounds_toArray,List.set_cons_zero,List.set_cons_succ]
       refine wpAnyH_take (i:=8) (oi:=_) (v:=(.bool false)) rfl (by kernel_rfl) (by kernel_rfl) (by kernel_rfl) (fun _ _ _ h=>h) (Or.inl ⟨by rfl,?_⟩) hHeld ?_
       · intro W hSw;(try dsimp only at hSw);go_simp
       simp only[Act.put,List.getElem_toArray,List.getElem_cons_succ,List.getElem_cons_zero,List.setIfInBounds_toArray,List.set_cons_zero,List.set_cons_succ]
       refine wpAnyH_take (i:=9) (oi:=_) (v:=_) rfl (by kernel_rfl) (by kernel_rfl) (by kernel_rfl) (fun _ _ _ h=>h) (Or.inr ⟨by rfl,rfl⟩) hHeld ?_
       simp only[Act.put,List.getElem_toArray,List.getElem_cons_succ,List.getElem_cons_zero,List.setIfInBounds_toArray,List.set_cons_zero,List.set_cons_succ]
       refine wpAnyH_take (i:=10) (oi:=_) (v:=_) rfl (by kernel_rfl) (by kernel_rfl) (by kernel_rfl) (fun _ _ _ h=>h) (Or.inr ⟨by rfl,rfl⟩) hHeld ?_
       simp only[Act.put,List.getElem_toArray,List.getElem_cons_succ,List.getElem_cons_zero,List.setIfInBounds_toArray,List.set_cons_zero,List.set_cons_succ]
       refine wpAnyH_take (i:=11) (oi:=_) (v:=_) rfl (by kernel_rfl) (by kernel_rfl) (by kernel_rfl) (fun _ _ _ h=>h) (Or.inr ⟨by rfl,rfl⟩) hHeld ?_
       simp only[Act.put,List.getElem_toArray,List.getElem_cons_succ,List.getElem_cons_zero,List.setIfInBounds_toArray,List.set_cons_zero,List.set_cons_succ]
       refine wpAnyH_take (i:=12) (oi:=_) (v:=_) rfl (by kernel_rfl) (by kernel_rfl) (by kernel_rfl) (fun _ _ _ h=>h) (Or.inr ⟨by rfl,rfl⟩) hHeld ?_
       simp only[Act.put,List.getElem_toArray,List.getElem_cons_succ,List.getElem_cons_zero,List.setIfInBounds_toArray,List.set_cons_zero,List.set_cons_succ]
       refine wpAnyH_take (i:=13) (oi:=_) (v:=_) rfl (by kernel_rfl) (by kernel_rfl) (by kernel_rfl) (fun _ _ _ h=>h) (Or.inr ⟨by rfl,rfl⟩) hHeld ?_
       simp only[Act.put,List.getElem_toArray,List.getElem_cons_succ,List.getElem_cons_zero,List.setIfInBounds_toArray,List.set_cons_zero,List.set_cons_succ]
       refine wpAnyH_take (i:=14) (oi:=_) (v:=_) rfl (by kernel_rfl) (by kernel_rfl) (by kernel_rfl) (fun _ _ _ h=>h) (Or.inr ⟨by rfl,rfl⟩) hHeld ?_
       simp only[Act.put,List.getElem_toArray,List.getElem_cons_succ,List.getElem_cons_zero,List.setIfInBounds_toArray,List.set_cons_zero,List.set_cons_succ]
       refine wpAnyH_take (i:=15) (oi:=_) (v:=_) rfl (by kernel_rfl) (by kernel_rfl) (by kernel_rfl) (fun _ _ _ h=>h) (Or.inr ⟨by rfl,rfl⟩) hHeld ?_
       simp only[Act.put,List.getElem_toArray,List.getElem_cons_succ,List.getElem_cons_zero,List.setIfInBounds_toArray,List.set_cons_zero,List.set_cons_succ]
       refine wpAnyH_take (i:=16) (oi:=_) (v:=_) rfl (by kernel_rfl) (by kernel_rfl) (by kernel_rfl) (fun _ _ _ h=>h) (Or.inr ⟨by rfl,rfl⟩) hHeld ?_
       simp only[Act.put,List.getElem_toArray,List.getElem_cons_succ,List.getElem_cons_zero,List.setIfInBounds_toArray,List.set_cons_zero,List.set_cons_succ]
       refine wpAnyH_take (i:=17) (oi:=_) (v:=?_) rfl (by kernel_rfl) (by kernel_rfl) (by kernel_rfl) (fun _ _ _ h=>h) (Or.inl ⟨by rfl,?_⟩) hHeld ?_
       rotate_left
       · intro W hSw;(try dsimp only at hSw);go_simp;try with_reducible rfl
       simp only[Act.put,List.getElem_toArray,List.getElem_cons_succ,List.getElem_cons_zero,List.setIfInBounds_toArray,List.set_cons_zero,List.set_cons_succ]
       refine wpAnyH_done (by kernel_rfl) ?_ _
       have HO5:=hide (hS.out.1.below ((Below.refl _ _).drew.trans hb5))
       go_wp2_with fail
       go_roundw
       case rel=>exact⟨k+1,by have:=HLK.out;omega,by go_num,hide ⟨by rw[← HP.out];exact HO5.out,c7⟩⟩
       case measure=>have:=HLK.out;simp[intOf];omega
  · obtain rfl:k=3:=by omega
    have hS:=hS.out
    have HP:=hide (NB m)
    have HO9:=hide hS.1
    have HS9:=hide hS.2
    clear hS
    go_wp2_with fail
    go_ret
    exact⟨_,rfl,by rw[← HP.out];exact HO9.out,HS9.out.b⟩
end Go.Proofs.YtfemlajeomohhaaGreatDoor
