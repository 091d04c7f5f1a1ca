/- A part of the claim: see its last text. -/
import Derived.Test.YtfemlajeomohhaaGreatDoorUK04

set_option maxRecDepth 100000
set_option maxHeartbeats 16000000
namespace Go.Proofs.YtfemlajeomohhaaGreatDoor
open Go Go.RowKit Go.Proofs
theorem Fv {nm:Int} {l:List Int} {k:Nat} (hk:k<l.length) (h:AP l[k] nm=false∨(0<k∧l[k]≤l.getD (k - 1) 0)):EP nm l=false:=by
 unfold EP
 rw[Bool.and_eq_false_iff]
 refine .inr ?_
 rw[decide_eq_false_iff_not]
 intro hh
 obtain⟨h1,h2⟩:=hh k hk
 rcases h with h|⟨h3,h4⟩
 · rw[h] at h1;cases h1
 · have:=h2 h3;omega
theorem Mt {nm:Int} {l:List Int} (h:∀ j (hj:j<l.length),j<l.length→AP l[j] nm=true∧(0<j→l.getD (j - 1) 0<l[j])):EP nm l=decide (0<l.length):=by
 unfold EP
 rw[decide_eq_true (p:=∀ i (h:i<l.length),AP l[i] nm=true∧(0<i→l.getD (i - 1) 0<l[i])) fun i hi=>h i hi hi,Bool.and_true]
theorem Hq (h:MH) (m:AC) (A:Option Addr) (c:Nat) (l:List Int) (w:World) (hl:l.length≤9223372036854775807) (hI:Ints w w.heap.size A l) :
    Calls Tryz.prog 50 #[.agg #[.slice h.s m.sT.length h.sc,.slice h.f m.fT.length h.fc,.slice h.r m.rT.length h.rc,.slice h.m m.mT.length h.mc,.slice h.l m.lT.length h.lc,.slice h.i m.iT.length h.ic,.int .i64 m.dT,.int .i64 m.oT,.int .i64 m.vT,.int .i64 m.aT,.slice h.u m.uT.length h.uc],.slice A l.length c] w fun e w'=>e=.returned (.bool (EP m.mT.length l))∧Below w.heap.size w w':=by
 go_enter Tryz.func50,Tryz.ntmps50
 go_wp2_with fail
 go_loopw [5] (fun i wr=>∃ k:Nat,k≤l.length∧i=.int .i64 k∧Hid (MW w w.heap.size wr h m)∧Hid (∀ j (hj:j<l.length),j<k→AP l[j] m.mT.length=true∧(0<j→l.getD (j - 1) 0<l[j]))) (fun i _=>l.length - (intOf i).toNat)
 case atStart=>exact⟨0,Nat.zero_le _,rfl,MW.start w h m,fun j hj h0=>absurd h0 (by omega)⟩
 case round =>
  obtain⟨k,hk,rfl,hW,hs⟩:=hrel
  have hL1:=hW.out.lt
  by_cases hlt:k<l.length
  · have hltI:(k:Int)<(l.length:Int):=by omega
    obtain⟨a0,a1,a2,a3,a4,a5,a6,a7,a8,a9,a10⟩:=MB.cells hW.out.blk
    clear a0 a1 a2 a4 a5 a6 a7 a8 a9 a10
    obtain⟨b,off,hA,hb,x0⟩:=Dy (hI.grow hW.out.b) hlt
    subst hA
    cases e1:AP l[k] m.mT.length
    · have HV:=hide (Fv (nm:=m.mT.length) hlt (.inl e1))
      go_wp2_with fail
      go_quiet ((go_at_call 21;exact Bv (Aa _ _ _)))
      go_wp2_with fail
      go_ret
      exact⟨AJ (by rw[HV.out];rfl),(hW.out.drewN _).b⟩
    by_cases hk0:k=0
    · have hk0I:decide (0<k)=false:=by simp[hk0]
      have HK:=hide (show AP l[k] m.mT.length=true∧(0<k→l.getD (k - 1) 0<l[k]) from⟨e1,fun h=>by omega⟩)
      have HK0:=hide hk0
      clear hk0
      go_wp2_with fail
      go_quiet ((go_at_call 21;exact Bv (Aa _ _ _)))
      go_wp2_with fail
      go_roundw
      case rel=>exact⟨k+1,by omega,by go_num,hide (hW.out.drewN _),fun q hq' h1=>by
       rcases Nat.lt_or_ge q k with h2|h2
       · exact hs q hq' h2
       · obtain rfl:q=k:=by omega
         exact HK⟩
      case measure=>simp[intOf];omega
    · obtain ⟨j,rfl⟩:∃ j,k=j+1:=⟨k - 1,by omega⟩
      obtain⟨b',off',hA',_,x1⟩:=Dy (hI.grow hW.out.b) (k:=j) (by omega)
      injection hA' with hA'
      injection hA' with hA1 hA2
      subst hA1
      subst hA2
      have hw1:IntKind.i64.wrap ((j+1:Nat) - 1:Int)=(j:Int):=by rw[IntWalk.i64_in _ (by omega)];omega
      have hjI:(j:Int)<(l.length:Int):=by omega
      have hg:l.getD (j+1 - 1) 0=l[j]:=by simp[List.getD,show j<l.length by omega]
      by_cases e2:l[j+1]≤l[j]
      · have HV:=hide (Fv (nm:=m.mT.length) hlt (.inr ⟨by omega,by rw[hg];exact e2⟩))
        clear hg
        go_wp2_with fail
        go_quiet ((go_at_call 21;exact Bv (Aa _ _ _)))
        go_wp2_with fail
        go_ret
        exact⟨AJ (by rw[HV.out];rfl),(hW.out.drewN _).b⟩
      · have HK:=hide (show AP l[j+1] m.mT.length=true∧(0<j+1→l.getD (j+1 - 1) 0<l[j+1]) from⟨e1,fun h=>by rw[hg];omega⟩)
        clear hg
        go_wp2_with fail
        go_quiet ((go_at_call 21;exact Bv (Aa _ _ _)))
        go_wp2_with fail
        go_roundw
        case rel=>exact⟨j+1+1,by omega,by go_num,hide (hW.out.drewN _),fun q hq' h1=>by
         rcases Nat.lt_or_ge q (j+1) with h2|h2
         · exact hs q hq' h2
         · obtain rfl:q=j+1:=by omega
           exact HK⟩
        case measure=>simp[intOf];omega
  · have HV:=hide (Mt (nm:=m.mT.length) fun q hq _=>hs.out q hq (by omega))
    go_wp2_with fail
    go_ret
    exact⟨AJ (by rw[HV.out];rfl),hW.out.b⟩
end Go.Proofs.YtfemlajeomohhaaGreatDoor
