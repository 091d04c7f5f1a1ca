/- A part of the claim: see its last text. -/
import Derived.Test.YtfemlajeomohhaaGreatDoorUK42
import Derived.Test.YtfemlajeomohhaaGreatDoorUK36

set_option maxRecDepth 100000
set_option maxHeartbeats 16000000
namespace Go.Proofs.YtfemlajeomohhaaGreatDoor
open Go Go.RowKit Go.Proofs
theorem Em.besides {w0:World} {A:Option Addr} {n c:Nat} {item:Int} {bl bd r bi bn bo bp:Nat} {ds:List Int} {run most:Int} {W W':World} (s:Em w0 A n c item bl bd r bi bn bo ds run most W) (hs:Am bp W W') (hp:∃ cs,AB W bp 56 cs) (h0:w0.heap.size≤bp):Em w0 A n c item bl bd r bi bn bo ds run most W':=by
 obtain⟨cs,hp⟩:=hp
 exact⟨s.b.trans (hs.toBelow h0 s.b.size),hs.blk s.lb (DN s.lb hp (by decide)),hs.blk s.mb (DN s.mb hp (by decide)),s.dm.keep (hs.block r s.dm.lt (s.heap_r hp)),hs.blk s.ib (DN s.ib hp (by decide)),hs.blk s.nb (DN s.nb hp (by decide)),hs.blk s.ob (DN s.ob hp (by decide))⟩
theorem OL (A:Option Addr) (c:Nat) (l:List EvM) (w:World) (hl:l.length≤1000) (h:Rows BD 22 w w.heap.size A l) :
    Calls Tryz.prog 38 #[.slice A l.length c] w fun e w'=>e=.returned (.tuple #[.int .i64 (Bh l).1,.int .i64 (Bh l).2])∧w=w':=by
 go_enter Tryz.func38,Tryz.ntmps38
 go_wp2_with fail
 go_loop [4] (fun i=>∃ k:Nat,k≤l.length∧i=.int .i64 k∧Hid (∀ j (hj:j<l.length),j<k→(fun u:EvM=>decide (u.kind=4)) l[j]=false)) (fun i=>l.length - (intOf i).toNat)
 case atStart=>exact⟨0,Nat.zero_le _,rfl,fun j hj h0=>absurd h0 (by omega)⟩
 case round =>
  obtain⟨k,hk,rfl,hs⟩:=hrel
  by_cases hlt:k<l.length
  · obtain ⟨x,hx⟩:∃ x,l[k]=x:=⟨_,rfl⟩
    obtain⟨b,off,j,hA,hb,_,_,_,hc⟩:=h.ev hlt hx
    have x0:w.cell? ⟨b,off+k*22,none⟩=some (.int .i64 x.kind):=hc 0 _ rfl
    have x21:=hc 21 _ rfl
    subst hA
    have HXX:=hide hx
    clear hc hx
    by_cases e1:x.kind=4
    · have g1:(x.kind == 4)=true:=by simpa using e1
      have hf:l.findIdx? (fun u:EvM=>decide (u.kind=4))=some k:=by
       rw[List.findIdx?_eq_some_iff_getElem]
       exact⟨hlt,by rw[HXX.out];simpa using e1,fun j hj=>by simpa using hs.out j (by omega) hj⟩
      have HF:=hide (show Bh l=(x.outcome,(k:Int)) by unfold Bh;rw[hf];simp[hlt,HXX.out])
      clear e1 hf
      go_wp2_with fail
      go_ret2
      rw[HF.out]
      exact⟨rfl,rfl⟩
    · have g1:(x.kind == 4)=false:=by simpa using e1
      have HK:=hide e1
      clear e1 x21
      go_wp2_with fail
      go_round
      case rel=>exact⟨k+1,by omega,by go_num,fun q hq h1=>by
       rcases Nat.lt_or_ge q k with h2|h2
       · exact hs q hq h2
       · obtain rfl:q=k:=by omega
         rw[HXX.out];simpa using HK.out⟩
      case measure=>simp[intOf];omega
  · have hf:l.findIdx? (fun u:EvM=>decide (u.kind=4))=none:=by
      rw[List.findIdx?_eq_none_iff]
      intro y hy
      obtain⟨j,hj,rfl⟩:=List.getElem_of_mem hy
      exact hs.out j hj (by omega)
    have HF:=hide (show Bh l=(0,-1) by unfold Bh;rw[hf])
    clear hf
    go_wp2_with fail
    go_ret2
    rw[HF.out]
    exact⟨rfl,rfl⟩
theorem Av.ne {B g:Nat} {w:World} {v:Value} {l:List Int} {T:TypeId} {cs:Array Value} (h:Av B w v l) (hb:AB w g T cs) (hne:T≠3):v.ownBlock≠some g:=by
 rintro e
 rcases h.2 with⟨rfl,_⟩|⟨g2,cap,cur,rfl,_,hh,_⟩
 · cases e
 · obtain rfl:g2=g:=Option.some.inj e
   rw[AB] at hb
   have:=hb.symm.trans hh
   simp at this
   exact hne this.2
structure Jw (w:World) (h:MH) (m:AC) (bp:Nat) (q:AA) (W:World):Prop where
 b:Below w.heap.size w W
 mo:AB W w.heap.size 29 #[.slice h.s m.sT.length h.sc,.slice h.f m.fT.length h.fc,.slice h.r m.rT.length h.rc,.slice h.m m.mT.length h.mc,.slice h.l m.lT.length h.lc,.slice h.i m.iT.length h.ic,.int .i64 m.dT,.int .i64 m.oT,.int .i64 m.vT,.int .i64 m.aT,.slice h.u m.uT.length h.uc]
 pl:∃ A c,AB W bp 56 #[.slice A q.length c]∧PT W (.slice A q.length c) q
theorem Jw.grow {w:World} {h:MH} {m:AC} {bp:Nat} {q:AA} {W W':World} (s:Jw w h m bp q W) (hb:Below W.heap.size W W'):Jw w h m bp q W':=by
 obtain⟨A,c,h1,h2⟩:=s.pl
 exact⟨s.b.trans (hb.mono s.b.size),s.mo.below hb s.mo.lt,⟨A,c,h1.below hb h1.lt,h2.below hb⟩⟩
theorem Jw.grown {w:World} {h:MH} {m:AC} {bp:Nat} {q:AA} {v:Value} {l:List Int} {W W':World} (s:Jw w h m bp q W) (ho:Av w.heap.size W v l) (hg:W.grownBy W' v.ownBlock):Jw w h m bp q W':=by
 obtain⟨A,c,h1,h2⟩:=s.pl
 exact⟨s.b.grown hg s.b.size (fun g e=>(ho.lt g e).1),s.mo.grown hg (fun e=>ho.ne s.mo (by decide) e.symm),⟨A,c,h1.grown hg (fun e=>ho.ne h1 (by decide) e.symm),h2.keep (KT.grown ho (by decide) hg) (KT.grown ho (by decide) hg)⟩⟩
theorem Jw.turned {w:World} {h:MH} {m:AC} {bp:Nat} {q q':AA} {W:World} (s:Jw w h m bp q W) {A:Option Addr} {c:Nat} (hp:PT W (.slice A q'.length c) q') (hbp:w.heap.size≤bp):Jw w h m bp q' (W.setCell ⟨bp,0,none⟩ (.slice A q'.length c)):=by
 obtain⟨A0,c0,h1,h2⟩:=s.pl
 exact⟨s.b.setCell (by simpa using hbp) _,s.mo.far (DN s.mo h1 (by decide)) _,⟨A,c,by simpa using h1.set_ 0 (.slice A q'.length c),hp.keep (KT.set_ h1 (by decide) 0 _) (KT.set_ h1 (by decide) 0 _)⟩⟩
theorem Av.turned{B bp:Nat}{v u:Value}{l:List Int}{W:World}{cs:Array Value}(h:Av B W v l)(hp:AB W bp 56 cs):Av B (W.setCell ⟨bp,0,none⟩ u) v l:=h.keep (KT.set_ hp (by decide) 0 _)
end Go.Proofs.YtfemlajeomohhaaGreatDoor
