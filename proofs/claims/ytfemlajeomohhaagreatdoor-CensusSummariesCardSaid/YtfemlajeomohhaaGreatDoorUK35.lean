/- A part of the claim: see its last text. -/
import Derived.Test.YtfemlajeomohhaaGreatDoorUK33
import Derived.Test.YtfemlajeomohhaaGreatDoorUK34
import Derived.Test.YtfemlajeomohhaaGreatDoorUK29

set_option maxRecDepth 100000
set_option maxHeartbeats 16000000
namespace Go.Proofs.YtfemlajeomohhaaGreatDoor
open Go Go.RowKit Go.Proofs
structure MS (w:World) (M:Array Value) (W:World):Prop where
 m:AB W w.heap.size 29 M
 b:Below w.heap.size w W
theorem MS.grow{w:World}{M:Array Value}{W W2:World}(s:MS w M W)(hb:Below W.heap.size W W2):MS w M W2:=⟨s.m.below hb s.m.lt,s.b.trans (hb.mono s.b.size)⟩
theorem MS.drew{w:World}{M:Array Value}{W:World}(s:MS w M W):MS w M W.drew:=⟨s.m.drew,s.b.drew⟩
theorem MS.cells{w:World}{h:MH}{m:AC}{W:World}(s:MS w #[.slice h.s m.sT.length h.sc,.slice h.f m.fT.length h.fc,.slice h.r m.rT.length h.rc,.slice h.m m.mT.length h.mc,.slice h.l m.lT.length h.lc,.slice h.i m.iT.length h.ic,.int .i64 m.dT,.int .i64 m.oT,.int .i64 m.vT,.int .i64 m.aT,.slice h.u m.uT.length h.uc] W):W.cell? ⟨w.heap.size,0,none⟩=some (.slice h.s m.sT.length h.sc)∧W.cell? ⟨w.heap.size,1,none⟩=some (.slice h.f m.fT.length h.fc)∧W.cell? ⟨w.heap.size,2,none⟩=some (.slice h.r m.rT.length h.rc)∧W.cell? ⟨w.heap.size,3,none⟩=some (.slice h.m m.mT.length h.mc)∧W.cell? ⟨w.heap.size,4,none⟩=some (.slice h.l m.lT.length h.lc)∧W.cell? ⟨w.heap.size,5,none⟩=some (.slice h.i m.iT.length h.ic)∧W.cell? ⟨w.heap.size,6,none⟩=some (.int .i64 m.dT)∧W.cell? ⟨w.heap.size,7,none⟩=some (.int .i64 m.oT)∧W.cell? ⟨w.heap.size,8,none⟩=some (.int .i64 m.vT)∧W.cell? ⟨w.heap.size,9,none⟩=some (.int .i64 m.aT)∧W.cell? ⟨w.heap.size,10,none⟩=some (.slice h.u m.uT.length h.uc):=MB.cells s.m
theorem FY:(Tryz.prog.info? 29).map (·.size)=some 11:=by kernel_rfl
theorem FQ {w:World} {bm:Nat} {h:MH} {m:AC} (d:AB w bm 29 #[.slice h.s m.sT.length h.sc,.slice h.f m.fT.length h.fc,.slice h.r m.rT.length h.rc,.slice h.m m.mT.length h.mc,.slice h.l m.lT.length h.lc,.slice h.i m.iT.length h.ic,.int .i64 m.dT,.int .i64 m.oT,.int .i64 m.vT,.int .i64 m.aT,.slice h.u m.uT.length h.uc]):w.rangeAt bm 0 [.slice h.s m.sT.length h.sc,.slice h.f m.fT.length h.fc,.slice h.r m.rT.length h.rc,.slice h.m m.mT.length h.mc,.slice h.l m.lT.length h.lc,.slice h.i m.iT.length h.ic,.int .i64 m.dT,.int .i64 m.oT,.int .i64 m.vT,.int .i64 m.aT,.slice h.u m.uT.length h.uc]:=fun j v hv=>by
 rw[Nat.zero_add,d.cell];simpa using hv
theorem G9{B:Nat}{w w':World}{b off:Nat}{cs:List Value}(h:w.rangeAt b off cs)(hb:Below B w w')(hlt:b<B):w'.rangeAt b off cs:=fun j v hv=>(hb.cell (p:=⟨b,off+j,none⟩) hlt).trans (h j v hv)
theorem GK {m:AC} {n v:Int} (h:Ai m n=v) (hv:v≠-1):∃ a:Nat,a<m.iT.length∧n=(a:Int)+1∧∃ ha:a<m.iT.length,m.iT[a].kind=v:=by
 have h0:=h
 by_cases h1:n<1
 · rw[ED (.inl h1)] at h;exact absurd h.symm hv
 by_cases h2:(m.iT.length:Int)<n
 · rw[ED (.inr h2)] at h;exact absurd h.symm hv
 obtain⟨a,ha,rfl⟩:∃ a:Nat,a<m.iT.length∧n=(a:Int)+1:=⟨(n - 1).toNat,by omega,by omega⟩
 rw[CG ha] at h0
 exact⟨a,ha,rfl,ha,h0⟩
theorem LD (h:MH) (m:AC) (x:EvM) (j:EvJ) (A:Option Addr) (c:Nat) (q:AA) (w:World) (d:MD w w.heap.size h m) (hm:m.mT.length≤100) (hil:m.iT.length≤100) (ho:x.old.length≤100) (hI:Ints w w.heap.size j.A x.old) (hp:PT w (.slice A q.length c) q) (hr:Room 800 q) (hc:Ah m x=true) :
    Calls Tryz.prog 83 #[.agg #[.slice h.s m.sT.length h.sc,.slice h.f m.fT.length h.fc,.slice h.r m.rT.length h.rc,.slice h.m m.mT.length h.mc,.slice h.l m.lT.length h.lc,.slice h.i m.iT.length h.ic,.int .i64 m.dT,.int .i64 m.oT,.int .i64 m.vT,.int .i64 m.aT,.slice h.u m.uT.length h.uc],.agg #[.slice A q.length c],.agg #[.int .i64 x.kind,.int .i64 x.mach,.int .i64 j.v2,.int .i64 j.v3,.int .i64 x.group,.int .i64 j.v5,.string j.v6,.int .i64 j.v7,.int .i64 j.v8,.int .i64 j.v9,.bool j.v10,.int .i64 j.v11,.slice j.A x.old.length j.c,.slice j.A13 j.n13 j.c13,.slice j.A14 j.n14 j.c14,.int .i64 x.hitem,.int .i64 j.v16,.int .i64 x.hstate,.int .i64 j.v18,.int .i64 j.v19,.bool x.gone,.int .i64 x.outcome]] w (BG w (Ac m q x)):=by
 by_cases hk:x.kind=2
 · rw[FV hk,decide_eq_true_eq] at hc
   obtain⟨a,ha,e,_⟩:=GK hc (by decide)
   have:=K7 h m x j A c q w hm ho hI hp hr hk (by omega) (by omega)
   rw[show Ac m q x=x.old.foldl (BH m x.group) (CY q x.group m.mT.length) by simp[Ac,hk]]
   exact this
 · have hk3:x.kind=3:=by
     rcases Classical.em (x.kind=3) with h3|h3
     · exact h3
     · rw[Ea hk h3] at hc;cases hc
   rw[Dt hk3] at hc
   simp only[Bool.and_eq_true,Bool.or_eq_true,decide_eq_true_eq] at hc
   have hr9:=hr.mono (show 800≤900 by omega)
   have hB:∀ b:Bool,b=false∨b=true:=fun b=>by cases b <;> simp
   rcases hc.1 with h1|h1
   · obtain ⟨a,ha,e,ha',hkd⟩:=GK h1 (by decide)
     have k1:(m.iT[a].kind == 1)=true:=by rw[hkd];rfl
     have k2:(m.iT[a].kind == 2)=false:=by rw[hkd];rfl
     rcases hB x.gone with hg|hg
     · rcases hB (x.hstate != 0) with hs|hs
       · exact Pm h m x j A c q w d hp hr9 hil hk a ha e hg k1 k2 hs
       · exact OV h m x j A c q w d hp hr9 hil hk a ha e hg k1 hs
     · exact Jf h m x j A c q w d hp hr9 hil hk a ha e hg
   · obtain ⟨a,ha,e,ha',hkd⟩:=GK h1 (by decide)
     have k1:(m.iT[a].kind == 1)=false:=by rw[hkd];rfl
     have k2:(m.iT[a].kind == 2)=true:=by rw[hkd];rfl
     rcases hB x.gone with hg|hg
     · rcases hB (x.hstate == 2) with hs|hs
       · exact Pk h m x j A c q w d hp hr9 hil hk a ha e hg k1 k2 hs
       · exact Lx h m x j A c q w d hp hr9 hil hk a ha e hg k1 k2 hs
     · exact Jf h m x j A c q w d hp hr9 hil hk a ha e hg
theorem Ez (m:AC) (l:List EvM):∀ k,k≤l.length→∃ pre,Ay m (l.take k)=pre ++ [AX m l k]
 | 0,_=>⟨[],rfl⟩
 | k + 1,hk=>by
   obtain⟨pre,h⟩:=Ez m l k (by omega)
   rw[EF (by omega)]
   split
   · exact⟨_,rfl⟩
   · rename_i hc
     refine⟨pre,?_⟩
     rw[List.append_nil,h,Cz m l (by omega),DI,if_neg hc]
structure MP (w:World) (h:MH) (m:AC) (ps:List AA) (v:Value) (wr:World):Prop where
 b:Below w.heap.size w wr
 bm:AB wr w.heap.size 29 #[.slice h.s m.sT.length h.sc,.slice h.f m.fT.length h.fc,.slice h.r m.rT.length h.rc,.slice h.m m.mT.length h.mc,.slice h.l m.lT.length h.lc,.slice h.i m.iT.length h.ic,.int .i64 m.dT,.int .i64 m.oT,.int .i64 m.vT,.int .i64 m.aT,.slice h.u m.uT.length h.uc]
 o:Dj w.heap.size wr v ps
def U6(w:World)(h:MH)(m:AC)(l:List EvM)(v i:Value)(wr:World):Prop:=∃ k:Nat,k≤l.length∧i=.int .i64 k∧MP w h m (Ay m (l.take k)) v wr
theorem MP.grow{w:World}{h:MH}{m:AC}{ps:List AA}{v:Value}{wr w1:World}(s:MP w h m ps v wr)(hb:Below wr.heap.size wr w1):MP w h m ps v w1:=⟨s.b.trans (hb.mono s.b.size),s.bm.below hb s.bm.lt,s.o.below hb⟩
theorem Ph (h : MH) (m:AC) (l:List EvM) (A:Option Addr) (c:Nat) (w:World) (d:MD w w.heap.size h m) (hk:∀ y∈m.iT,y.kind=0∨y.kind=1∨y.kind=2)
    (hE:Rows BD 22 w w.heap.size A l) (hi:m.iT.length≤100) (hm:m.mT.length≤100) (hon:∀ x∈m.iT,x.on.length≤100) (hl:l.length≤60) (hold:∀ x∈l,x.old.length≤10) :
    Calls Tryz.prog 86 #[.agg #[.slice h.s m.sT.length h.sc,.slice h.f m.fT.length h.fc,.slice h.r m.rT.length h.rc,.slice h.m m.mT.length h.mc,.slice h.l m.lT.length h.lc,.slice h.i m.iT.length h.ic,.int .i64 m.dT,.int .i64 m.oT,.int .i64 m.vT,.int .i64 m.aT,.slice h.u m.uT.length h.uc],.slice A l.length c] w (Oo w (Ay m l)):=by
 have hb:=(Below.refl w.heap.size w).alloc (Nat.le_refl _) (.cells #[.slice h.s m.sT.length h.sc,.slice h.f m.fT.length h.fc,.slice h.r m.rT.length h.rc,.slice h.m m.mT.length h.mc,.slice h.l m.lT.length h.lc,.slice h.i m.iT.length h.ic,.int .i64 m.dT,.int .i64 m.oT,.int .i64 m.vT,.int .i64 m.aT,.slice h.u m.uT.length h.uc] 29)
 have HB:=hide hb
 have HD:=hide (fun W (hW:Below w.heap.size w W)=>(d.below hW).more hW.size)
 have HEV:=hide (fun W (hW:Below w.heap.size w W)=>hE.below hW)
 have HI:=hide (G6 h m _ (d.grow hb) (by omega) (fun x hx=>by have:=hon x hx;omega))
 have HIN:=hide (And.intro hi (And.intro hm (And.intro hon hold)))
 have HK:=hide hk
 have HR:=hide (fun k=>Room.placeAt (m:=m) (l:=l) (by omega) hon hold k)
 have HM0:=hide (AB.new w 29 #[.slice h.s m.sT.length h.sc,.slice h.f m.fT.length h.fc,.slice h.r m.rT.length h.rc,.slice h.m m.mT.length h.mc,.slice h.l m.lT.length h.lc,.slice h.i m.iT.length h.ic,.int .i64 m.dT,.int .i64 m.oT,.int .i64 m.vT,.int .i64 m.aT,.slice h.u m.uT.length h.uc])
 clear d hE hk hi hm hon hold hb
 go_enter Tryz.func86,Tryz.ntmps86
 go_wp2_with (go_at_call 81;refine HI.out.mono ?_;rintro e w1 ⟨A1,c1,rfl,hp1,hb1⟩
              have HB1:=hide (HB.out.trans (hb1.mono HB.out.size))
              have HM1:=hide (HM0.out.below hb1 (by simp))
              have HP1:=hide hp1
              clear hp1 hb1)
 go_loopw [5,6] (fun v i wr=>U6 w h m l v i wr) (fun _ i _=>l.length - (intOf i).toNat)
 case atStart =>
  exact⟨0,Nat.zero_le _,rfl,HB1.out.alloc HB1.out.size _,HM1.out.alloc _,Dj.one w1 HB1.out.size HP1.out⟩
 case round =>
  obtain⟨k,hk,rfl,hS⟩:=hrel
  have hS:=hide hS
  obtain⟨a0,a1,a2,a3,a4,a5,a6,a7,a8,a9,a10⟩:=MB.cells hS.out.bm
  have al:=hS.out.bm.lt
  by_cases hlt:k<l.length
  · obtain ⟨x,hx⟩:∃ x,l[k]=x:=⟨_,rfl⟩
    obtain⟨pre,hpre⟩:=Ez m l k hk
    obtain⟨n,hn⟩:∃ n,n=pre.length:=⟨_,rfl⟩
    have HLN:=hide (show(Ay m (l.take k)).length=n+1 by rw[hpre,hn];simp)
    obtain⟨A9,c9,e9,hl9,hc9,hR9⟩:=hS.out.o.form
    obtain⟨b9,off9,A8,c8,e8,hb9,hx9,hP9⟩:=hR9 n (by rw[HLN.out];omega)
    have hlast:(Ay m (l.take k))[n]'(by rw[HLN.out];omega)=AX m l k:=by simp[hpre,hn]
    rw[hlast] at hx9 hP9
    rw[HLN.out] at e9
    subst e9 e8
    have HPL:=hide (fun W (hW:Below wr.heap.size wr W)=>(G9 (cs:=[.slice A8 (AX m l k).length c8]) (fun j v hv=>by
     rcases j with _|j
     · obtain rfl:Value.slice A8 (AX m l k).length c8=v:=by simpa using hv
       exact hx9
     · simp at hv) hW hb9:W.rangeAt b9 (off9+n) [.slice A8 (AX m l k).length c8]))
    have HP9:=hide hP9
    have HP9L:=hide hb9
    have HX9:=hide hx9
    have hnle:n≤60:=by have:=FT m (l.take k);rw[HLN.out] at this;simp at this;omega
    clear hpre hn hl9 hc9 hR9 hb9 hx9 hP9 hlast
    obtain⟨b,off,j,hA,hb,ho1,ho2,hoI,hc⟩:=(HEV.out wr hS.out.b).evRange hlt hx
    have hbl:=Nat.lt_of_lt_of_le hb hS.out.b.size
    have hxo:x.old.length≤10:=by rw[← hx];exact HIN.out.2.2.2 _ (List.getElem_mem hlt)
    have HCR:=hide (fun W (hW:Below wr.heap.size wr W)=>G9 hc hW hbl)
    have HX:=hide hx
    have HCW:=hide (fun W (hW:Below w.heap.size w W)=>(fun jj v hv=>(hW.cell (p:=⟨b,(off+k*22)+jj,none⟩) hb).trans ((hS.out.b.cell (p:=⟨b,(off+k*22)+jj,none⟩) hb).symm.trans (hc jj v hv)):W.rangeAt b (off+k*22) [.int .i64 x.kind,.int .i64 x.mach,.int .i64 j.v2,.int .i64 j.v3,.int .i64 x.group,.int .i64 j.v5,.string j.v6,.int .i64 j.v7,.int .i64 j.v8,.int .i64 j.v9,.bool j.v10,.int .i64 j.v11,.slice j.A x.old.length j.c,.slice j.A13 j.n13 j.c13,.slice j.A14 j.n14 j.c14,.int .i64 x.hitem,.int .i64 j.v16,.int .i64 x.hstate,.int .i64 j.v18,.int .i64 j.v19,.bool x.gone,.int .i64 x.outcome]))
    subst hA
    have HC:=hide (J4 h m x j wr.drew ((HD.out wr hS.out.b).grow (Below.refl _ wr).drew) HK.out)
    have HJ:=hide (hoI.more (show w.heap.size≤wr.heap.size from hS.out.b.size))
    have HLM:=hide (fun W (hW:Below wr.heap.size wr W)=>FQ (hS.out.bm.below hW al))
    clear hc hx ho1 ho2 hoI
    have hkI:(k:Int)<(l.length:Int):=by omega
    have hnI:(n:Int)<(n:Int)+1:=by omega
    have hn0:(0:Int)≤(n:Int):=by omega
    have hwn:IntKind.i64.wrap (n:Int)=(n:Int):=by rw[IntKind.wrap_i64];omega
    have HRM:=hide ((HR.out k).mono (show 100+11*k≤800 by omega))
    --A
    go_wp2_with fail
    refine wp_region_held_drew (S:=fun W=>Below wr.heap.size wr W) (by kernel_rfl) (Below.refl _ wr).drew (fun hHeld=>?_)
    refine wpAnyH_take (i:=0) (oi:=_) (v:=_) rfl (by kernel_rfl) (by kernel_rfl) (by kernel_rfl) (fun _ _ _ h=>h) (yieldsIf_load_mid (by rfl) 29 _ rfl w.heap.size 0 rfl [.slice h.s m.sT.length h.sc,.slice h.f m.fT.length h.fc,.slice h.r m.rT.length h.rc,.slice h.m m.mT.length h.mc,.slice h.l m.lT.length h.lc,.slice h.i m.iT.length h.ic,.int .i64 m.dT,.int .i64 m.oT,.int .i64 m.vT,.int .i64 m.aT,.slice h.u m.uT.length h.uc] _ (fun W hW=>HLM.out W hW) Tryz.underlying29 rfl FY) hHeld ?_
    simp only[Act.put,List.getElem_toArray,List.getElem_cons_zero,List.setIfInBounds_toArray,List.set_cons_zero,List.set_cons_succ]
    refine wpAnyH_take (i:=1) (oi:=_) (v:=?_) rfl (by kernel_rfl) (by kernel_rfl) (by kernel_rfl) (fun _ _ _ h=>h) (Or.inl ⟨by rfl,?_⟩) hHeld ?_
    rotate_left
    · intro W hW;go_simp;with_reducible rfl
    simp only[Act.put,List.getElem_toArray,List.getElem_cons_succ,List.getElem_cons_zero,List.setIfInBounds_toArray,List.set_cons_zero,List.set_cons_succ]
    refine wpAnyH_take (i:=2) (oi:=_) (v:=?_) rfl (by kernel_rfl) (by kernel_rfl) (by kernel_rfl) (fun _ _ _ h=>h) (Or.inl ⟨by rfl,?_⟩) hHeld ?_
    rotate_left
    · intro W hW;go_simp;with_reducible rfl
    simp only[Act.put,List.getElem_toArray,List.getElem_cons_succ,List.getElem_cons_zero,List.setIfInBounds_toArray,List.set_cons_zero,List.set_cons_succ]
    refine wpAnyH_take (i:=3) (oi:=_) (v:=?_) rfl (by kernel_rfl) (by kernel_rfl) (by kernel_rfl) (fun _ _ _ h=>h) (Or.inl ⟨by rfl,?_⟩) hHeld ?_
    rotate_left
    · intro W hW;go_simp;with_reducible rfl
    simp only[Act.put,List.getElem_toArray,List.getElem_cons_succ,List.getElem_cons_zero,List.setIfInBounds_toArray,List.set_cons_zero,List.set_cons_succ]
    refine wpAnyH_take (i:=4) (oi:=_) (v:=_) rfl (by kernel_rfl) (by kernel_rfl) (by kernel_rfl) (fun _ _ _ h=>h) (yieldsIf_load_mid (by rfl) 85 _ rfl b (off+k*22) rfl [.int .i64 x.kind,.int .i64 x.mach,.int .i64 j.v2,.int .i64 j.v3,.int .i64 x.group,.int .i64 j.v5,.string j.v6,.int .i64 j.v7,.int .i64 j.v8,.int .i64 j.v9,.bool j.v10,.int .i64 j.v11,.slice j.A x.old.length j.c,.slice j.A13 j.n13 j.c13,.slice j.A14 j.n14 j.c14,.int .i64 x.hitem,.int .i64 j.v16,.int .i64 x.hstate,.int .i64 j.v18,.int .i64 j.v19,.bool x.gone,.int .i64 x.outcome] _ (fun W hW=>HCR.out W hW) Tryz.underlying85 rfl Ck) hHeld ?_
    simp only[Act.put,List.getElem_toArray,List.getElem_cons_succ,List.getElem_cons_zero,List.setIfInBounds_toArray,List.set_cons_zero,List.set_cons_succ]
    refine wpAnyH_ready (rs:=[5]) (by kernel_rfl) (by simp) ?_
    refine AllReadyH.cons rfl (fun K hK=>?_) AllReadyH.nil
    go_simp
    go_at_call 82
    refine HC.out.mono ?_
    rintro e w2 ⟨rfl,hb2⟩
    have hb2':Below wr.heap.size wr w2:=⟨hb2.os,hb2.tape,hb2.output,hb2.size,hb2.block⟩
    have HB2:=hide hb2'
    clear hb2
    dsimp only
    refine hK.out _ _ hb2' (fun hHeld=>?_)
    refine wpAnyH_done (by kernel_rfl) ?_ _
    clear hK hHeld hb2'
    cases hcb:Ah m x
    · have HPS:=hide (show Ay m (l.take (k+1))=Ay m (l.take k) by rw[EF hlt,HX.out,hcb];simp)
      go_wp2_with fail
      go_roundw
      case rel=>exact⟨k+1,by omega,by go_num,by rw[HPS.out];exact hS.out.grow HB2.out⟩
      case measure=>simp[intOf];omega
    · have hb2:=HB2.out
      have HS2:=hide (hS.out.grow hb2)
      have HA:=hide (LD h m x j A8 c8 (AX m l k) w2.drew ((HD.out w2 HS2.out.b).grow (Below.refl _ w2).drew) HIN.out.2.1 HIN.out.1 (by omega) ((HJ.out.below hb2).more hb2.size) ((HP9.out.below hb2).below (Below.refl _ w2).drew) HRM.out hcb)
      have HPS:=hide (show Ay m (l.take (k+1))=Ay m (l.take k) ++ [Ac m (AX m l k) x] by rw[EF hlt,HX.out,hcb,if_pos rfl,Cz m l hlt,DI,HX.out,if_pos hcb])
      go_wp2_with fail
      have hp9:w2.drew.cell? ⟨b9,off9+n,none⟩=some (.slice A8 (AX m l k).length c8):=(hb2.cell (p:=⟨b9,off9+n,none⟩) HP9L.out).trans HX9.out
      have hp9l:b9<w2.heap.size:=Nat.lt_of_lt_of_le HP9L.out hb2.size
      refine wp_region_held_drew (S:=fun W=>Below w.heap.size w W∧AB W w.heap.size 29 #[.slice h.s m.sT.length h.sc,.slice h.f m.fT.length h.fc,.slice h.r m.rT.length h.rc,.slice h.m m.mT.length h.mc,.slice h.l m.lT.length h.lc,.slice h.i m.iT.length h.ic,.int .i64 m.dT,.int .i64 m.oT,.int .i64 m.vT,.int .i64 m.aT,.slice h.u m.uT.length h.uc]) (by kernel_rfl) ⟨HS2.out.b.drew,HS2.out.bm⟩ (fun hHeld=>?_)
      refine wpAnyH_take (i:=0) (oi:=_) (v:=?_) rfl (by kernel_rfl) (by kernel_rfl) (by kernel_rfl) (fun _ _ _ h=>h) (Or.inl ⟨by rfl,?_⟩) hHeld ?_
      rotate_left
      · intro W hW;go_simp;with_reducible rfl
      simp only[Act.put,List.getElem_toArray,List.getElem_cons_zero,List.setIfInBounds_toArray,List.set_cons_zero,List.set_cons_succ]
      refine wpAnyH_take (i:=1) (oi:=_) (v:=_) rfl (by kernel_rfl) (by kernel_rfl) (by kernel_rfl) (fun _ _ _ h=>h) (yieldsIf_load_mid (by rfl) 29 _ rfl w.heap.size 0 rfl [.slice h.s m.sT.length h.sc,.slice h.f m.fT.length h.fc,.slice h.r m.rT.length h.rc,.slice h.m m.mT.length h.mc,.slice h.l m.lT.length h.lc,.slice h.i m.iT.length h.ic,.int .i64 m.dT,.int .i64 m.oT,.int .i64 m.vT,.int .i64 m.aT,.slice h.u m.uT.length h.uc] _ (fun W hW=>FQ hW.2) Tryz.underlying29 rfl FY) hHeld ?_
      simp only[Act.put,List.getElem_toArray,List.getElem_cons_succ,List.getElem_cons_zero,List.setIfInBounds_toArray,List.set_cons_zero,List.set_cons_succ]
      refine wpAnyH_take (i:=2) (oi:=_) (v:=?_) rfl (by kernel_rfl) (by kernel_rfl) (by kernel_rfl) (fun _ _ _ h=>h) (Or.inl ⟨by rfl,?_⟩) hHeld ?_
      rotate_left
      · intro W hW;go_simp;with_reducible rfl
      simp only[Act.put,List.getElem_toArray,List.getElem_cons_succ,List.getElem_cons_zero,List.setIfInBounds_toArray,List.set_cons_zero,List.set_cons_succ]
      refine wpAnyH_take (i:=3) (oi:=_) (v:=?_) rfl (by kernel_rfl) (by kernel_rfl) (by kernel_rfl) (fun _ _ _ h=>h) (Or.inl ⟨by rfl,?_⟩) hHeld ?_
      rotate_left
      · intro W hW;go_simp;with_reducible rfl
      simp only[Act.put,List.getElem_toArray,List.getElem_cons_succ,List.getElem_cons_zero,List.setIfInBounds_toArray,List.set_cons_zero,List.set_cons_succ]
      refine wpAnyH_take (i:=4) (oi:=_) (v:=?_) rfl (by kernel_rfl) (by kernel_rfl) (by kernel_rfl) (fun _ _ _ h=>h) (Or.inl ⟨by rfl,?_⟩) hHeld ?_
      rotate_left
      · intro W hW;go_simp;with_reducible rfl
      simp only[Act.put,List.getElem_toArray,List.getElem_cons_succ,List.getElem_cons_zero,List.setIfInBounds_toArray,List.set_cons_zero,List.set_cons_succ]
      refine wpAnyH_take (i:=5) (oi:=_) (v:=?_) rfl (by kernel_rfl) (by kernel_rfl) (by kernel_rfl) (fun _ _ _ h=>h) (Or.inl ⟨by rfl,?_⟩) hHeld ?_
      rotate_left
      · intro W hW;go_simp;with_reducible rfl
      simp only[Act.put,List.getElem_toArray,List.getElem_cons_succ,List.getElem_cons_zero,List.setIfInBounds_toArray,List.set_cons_zero,List.set_cons_succ]
      refine wpAnyH_take (i:=6) (oi:=_) (v:=?_) rfl (by kernel_rfl) (by kernel_rfl) (by kernel_rfl) (fun _ _ _ h=>h) (Or.inl ⟨by rfl,?_⟩) hHeld ?_
      rotate_left
      · intro W hW;go_simp;with_reducible rfl
      simp only[Act.put,List.getElem_toArray,List.getElem_cons_succ,List.getElem_cons_zero,List.setIfInBounds_toArray,List.set_cons_zero,List.set_cons_succ]
      refine wpAnyH_take (i:=8) (oi:=_) (v:=?_) rfl (by kernel_rfl) (by kernel_rfl) (by kernel_rfl) (fun _ _ _ h=>h) (Or.inl ⟨by rfl,?_⟩) hHeld ?_
      rotate_left
      · intro W hW;go_simp;with_reducible rfl
      simp only[Act.put,List.getElem_toArray,List.getElem_cons_succ,List.getElem_cons_zero,List.setIfInBounds_toArray,List.set_cons_zero,List.set_cons_succ]
      refine wpAnyH_take (i:=9) (oi:=_) (v:=?_) rfl (by kernel_rfl) (by kernel_rfl) (by kernel_rfl) (fun _ _ _ h=>h) (Or.inl ⟨by rfl,?_⟩) hHeld ?_
      rotate_left
      · intro W hW;go_simp;with_reducible rfl
      simp only[Act.put,List.getElem_toArray,List.getElem_cons_succ,List.getElem_cons_zero,List.setIfInBounds_toArray,List.set_cons_zero,List.set_cons_succ]
      refine wpAnyH_take (i:=10) (oi:=_) (v:=?_) rfl (by kernel_rfl) (by kernel_rfl) (by kernel_rfl) (fun _ _ _ h=>h) (Or.inl ⟨by rfl,?_⟩) hHeld ?_
      rotate_left
      · intro W hW;go_simp;with_reducible rfl
      simp only[Act.put,List.getElem_toArray,List.getElem_cons_succ,List.getElem_cons_zero,List.setIfInBounds_toArray,List.set_cons_zero,List.set_cons_succ]
      refine wpAnyH_take (i:=11) (oi:=_) (v:=_) rfl (by kernel_rfl) (by kernel_rfl) (by kernel_rfl) (fun _ _ _ h=>h) (yieldsIf_load_mid (by rfl) 85 _ rfl b (off+k*22) rfl [.int .i64 x.kind,.int .i64 x.mach,.int .i64 j.v2,.int .i64 j.v3,.int .i64 x.group,.int .i64 j.v5,.string j.v6,.int .i64 j.v7,.int .i64 j.v8,.int .i64 j.v9,.bool j.v10,.int .i64 j.v11,.slice j.A x.old.length j.c,.slice j.A13 j.n13 j.c13,.slice j.A14 j.n14 j.c14,.int .i64 x.hitem,.int .i64 j.v16,.int .i64 x.hstate,.int .i64 j.v18,.int .i64 j.v19,.bool x.gone,.int .i64 x.outcome] _ (fun W hW=>HCW.out W hW.1) Tryz.underlying85 rfl Ck) hHeld ?_
      simp only[Act.put,List.getElem_toArray,List.getElem_cons_succ,List.getElem_cons_zero,List.setIfInBounds_toArray,List.set_cons_zero,List.set_cons_succ]
      refine wpAnyH_ready (rs:=[7]) (by kernel_rfl) (by simp) ?_
      refine AllReadyH.cons rfl (fun K hK=>?_) AllReadyH.nil
      go_simp
      refine hK.out _ _ hHeld (fun hHeld=>?_)
      clear hK K
      refine wpAnyH_ready (rs:=[12]) (by kernel_rfl) (by simp) ?_
      refine AllReadyH.cons rfl (fun K hK=>?_) AllReadyH.nil
      go_simp
      go_at_call 83
      refine HA.out.mono ?_
      rintro e w4 ⟨A4,c4,rfl,hp4,hb4⟩
      have hb4':Below w2.heap.size w2 w4:=⟨hb4.os,hb4.tape,hb4.output,hb4.size,hb4.block⟩
      have hS4:=HS2.out.grow hb4'
      have HP4:=hide hp4
      clear hb4 hp4
      dsimp only
      refine hK.out _ _ ⟨hS4.b,hS4.bm⟩ (fun hHeld=>?_)
      clear hK hHeld K
      refine wpAnyH_ready (rs:=[13]) (by kernel_rfl) (by simp) ?_
      refine AllReadyH.cons rfl (fun K hK=>?_) AllReadyH.nil
      go_simp
      have hS5:=hS4.grow ((Below.refl _ w4).alloc (Nat.le_refl _) (.cells #[.slice A4 (Ac m (AX m l k) x).length c4] 56))
      refine hK.out _ _ ⟨hS5.b,hS5.bm⟩ (fun hHeld=>?_)
      clear hK hHeld K
      have hrd:=Reads.newRow w4 #[.slice A4 (Ac m (AX m l k) x).length c4] 56 1 1 rfl
      have hp5:=HP4.out.below ((Below.refl _ w4).alloc (Nat.le_refl _) (.cells #[.slice A4 (Ac m (AX m l k) x).length c4] 56))
      refine wpAnyH_ready (rs:=[14]) (by kernel_rfl) (by simp) ?_
      refine AllReadyH.cons rfl (fun K hK=>?_) AllReadyH.nil
      rw[if_pos (by rfl)]
      refine Gt _ _ rfl w.heap.size (.slice (some ⟨b9,off9,none⟩) (n+1) c9) (Ay m (l.take k)) rfl hS5.o _ _ 1 A4 c4 (Ac m (AX m l k) x) rfl hrd hp5 (by rw[HLN.out];omega) hS5.b.size ?_
      intro v6 w6 ho6 hg6 hv6 q1 q2 q3
      have hS6:MP w h m (Ay m (l.take k) ++ [Ac m (AX m l k) x]) v6 w6:=⟨hS5.b.grown hg6 hS5.b.size (fun g e=>(hS5.o.lt g e).1),q3.2 _ _ hS5.bm,ho6⟩
      refine hK.out _ _ ⟨hS6.b,hS6.bm⟩ (fun hHeld=>?_)
      clear hK hHeld K
      refine wpAnyH_ready (rs:=[15]) (by kernel_rfl) (by simp) ?_
      refine AllReadyH.cons rfl (fun K hK=>?_) AllReadyH.nil
      go_simp
      refine hK.out _ _ ⟨hS6.b,hS6.bm⟩ (fun hHeld=>?_)
      refine wpAnyH_done (by kernel_rfl) ?_ _
      have HS6:=hide hS6
      clear hS6 hS5 hS4 ho6 hg6 hv6 q1 q2 q3 hrd hp5 hK K hHeld
      go_wp2_with fail
      go_roundw
      case rel=>exact⟨k+1,by omega,by go_num,by rw[HPS.out];exact HS6.out⟩
      case measure=>simp[intOf];omega
    --B
  · obtain rfl:k=l.length:=by omega
    have HS:=hide hS.out
    obtain⟨A9,c9,e9,hl9,hc9,hR9⟩:=hS.out.o.form
    rw[List.take_length] at e9 hl9 hR9
    subst e9
    have HR9:=hide hR9
    clear hR9 hS a0 a1 a2 a3 a4 a5 a6 a7 a8 a9 a10 al
    go_wp2_with fail
    go_ret
    exact⟨A9,c9,rfl,hl9,hc9,HR9.out,HS.out.b⟩
end Go.Proofs.YtfemlajeomohhaaGreatDoor
