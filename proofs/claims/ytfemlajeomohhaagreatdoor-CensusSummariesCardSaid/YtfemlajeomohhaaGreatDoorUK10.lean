/- A part of the claim: see its last text. -/
import Derived.Test.YtfemlajeomohhaaGreatDoorUK09

set_option maxRecDepth 100000
set_option maxHeartbeats 16000000
namespace Go.Proofs.YtfemlajeomohhaaGreatDoor
open Go Go.RowKit Go.Proofs
def Room(n:Nat)(p:AA):Prop:=p.length≤1000∧∀ l∈p,l.length≤n
theorem Room.short{n:Nat}{p:AA}(h:Room n p)(hn:n≤999):DW p:=⟨h.1,fun l hl=>Nat.le_trans (h.2 l hl) hn⟩
theorem Room.mono{n n':Nat}{p:AA}(h:Room n p)(hn:n≤n'):Room n' p:=⟨h.1,fun l hl=>Nat.le_trans (h.2 l hl) hn⟩
theorem Room.unitsP {n:Nat} {p:AA} (h:Room n p) (item:Int):(AQ p item).length≤n:=by
 unfold Go.Proofs.YtfemlajeomohhaaGreatDoor.AQ
 split
 · rename_i hi
   have hi2:1≤item∧item≤(p.length:Int):=by simpa[AP] using hi
   have hj:(item - 1).toNat<p.length:=by omega
   rw[List.getD_eq_getElem?_getD,List.getElem?_eq_getElem hj]
   exact h.2 _ (List.getElem_mem _)
 · simp
theorem Room.withP {n:Nat} {p:AA} {item:Int} {l:List AO} (h:Room n p) (hl:l.length≤n):Room n (BL p item l):=by
 refine⟨by rw[Cc];exact h.1,fun x hx=>?_⟩
 unfold Go.Proofs.YtfemlajeomohhaaGreatDoor.BL at hx
 split at hx
 · rcases List.mem_or_eq_of_mem_set hx with hx|rfl
   · exact h.2 x hx
   · exact hl
 · exact h.2 x hx
theorem Qd (l:List AO) (mc:Int):(DX l mc).length≤l.length:=by
 unfold DX
 split
 · exact Nat.le_refl _
 · simp;omega
theorem SB (l:List AO) (mc st:Int):(CX l mc st).length≤l.length+1:=by
 unfold CX
 split
 · simp
 · simp;omega
theorem Room.drop{n:Nat}{p:AA}(h:Room n p)(item mc:Int):Room n (Cf p item mc):=h.withP (Nat.le_trans (Qd _ _) (h.unitsP item))
theorem Room.put{n:Nat}{p:AA}(h:Room n p)(item mc st:Int):Room (n+1) (Cn p item mc st):=(h.mono (Nat.le_succ n)).withP (Nat.le_trans (SB _ _ _) (Nat.succ_le_succ (h.unitsP item)))
theorem Room.dropAll1 {n:Nat} {p:AA} (h:Room n p) (item:Int) (k:Nat):Room n (CY p item k):=by
 induction k with
 | zero=>exact h
 | succ k ih=>unfold CY;rw[List.range_succ,List.foldl_append];exact Room.drop ih item _
theorem Et (p:AA) (item:Int) (k:Nat):Cf (CY p item k) item ((k:Int)+1)=CY p item (k+1):=by
 unfold CY;rw[List.range_succ,List.foldl_append];rfl
theorem Room.putOld1 {n:Nat} {p:AA} (h:Room n p) (m:AC) (item k:Int):Room (n+1) (BH m item p k):=by
 unfold BH
 split
 · exact h.put _ _ _
 · exact h.mono (Nat.le_succ n)
theorem Room.putOlds (m:AC) (item:Int):∀ (l:List Int) {n:Nat} {p:AA},Room n p→Room (n+l.length) (l.foldl (BH m item) p)
 | [],_,_,h=>h
 | a :: l,n,p,h=>by
   have:=Room.putOlds m item l (h.putOld1 m item a)
   simp only[List.foldl_cons,List.length_cons]
   exact this.mono (by omega)
theorem Room.after {n:Nat} {p:AA} (h:Room n p) (m:AC) (x:EvM):Room (n+(x.old.length+1)) (Ac m p x):=by
 unfold Ac
 split
 · exact(Room.putOlds m x.group x.old (h.dropAll1 x.group _)).mono (by omega)
 · split
   · exact(h.drop _ _).mono (by omega)
   · split <;> exact(h.put _ _ _).mono (by omega)
structure Di (w:World) (h:MH) (m:AC) (x:EvM) (j:EvJ) (wr:World) (q:AA):Prop where
 b:Below w.heap.size w wr
 bm:AB wr w.heap.size 29 #[.slice h.s m.sT.length h.sc,.slice h.f m.fT.length h.fc,.slice h.r m.rT.length h.rc,.slice h.m m.mT.length h.mc,.slice h.l m.lT.length h.lc,.slice h.i m.iT.length h.ic,.int .i64 m.dT,.int .i64 m.oT,.int .i64 m.vT,.int .i64 m.aT,.slice h.u m.uT.length h.uc]
 be:AB wr (w.heap.size+1+1) 85 #[.int .i64 x.kind,.int .i64 x.mach,.int .i64 j.v2,.int .i64 j.v3,.int .i64 x.group,.int .i64 j.v5,.string j.v6,.int .i64 j.v7,.int .i64 j.v8,.int .i64 j.v9,.bool j.v10,.int .i64 j.v11,.slice j.A x.old.length j.c,.slice j.A13 j.n13 j.c13,.slice j.A14 j.n14 j.c14,.int .i64 x.hitem,.int .i64 j.v16,.int .i64 x.hstate,.int .i64 j.v18,.int .i64 j.v19,.bool x.gone,.int .i64 x.outcome]
 br:AB wr (w.heap.size+1+1+1) 56 #[.slice none 0 0]
 bp:∃ A c,AB wr (w.heap.size+1) 56 #[.slice A q.length c]∧PT wr (.slice A q.length c) q
theorem Di.next {w wr w1:World} {h:MH} {m:AC} {x:EvM} {j:EvJ} {q q':AA} {A:Option Addr} {c:Nat} (s:Di w h m x j wr q) (hb:Below wr.heap.size wr w1) (hp:PT w1 (.slice A q'.length c) q') :
    Di w h m x j (w1.setCell ⟨w.heap.size+1,0,none⟩ (.slice A q'.length c)) q':=by
 obtain⟨A0,c0,hB,_⟩:=s.bp
 have hB1:=hB.below hb hB.lt
 refine⟨(s.b.trans (hb.mono s.b.size)).setCell (by simp) _,(s.bm.below hb s.bm.lt).far (by simp) _,(s.be.below hb s.be.lt).far (by simp <;> omega) _,(s.br.below hb s.br.lt).far (by simp <;> omega) _,A,c,?_,hp.keep (KT.set_ hB1 (by decide) 0 _) (KT.set_ hB1 (by decide) 0 _)⟩
 simpa using hB1.set_ 0 (.slice A q'.length c)
theorem Di.grow {w wr w1:World} {h:MH} {m:AC} {x:EvM} {j:EvJ} {q:AA} (s:Di w h m x j wr q) (hb:Below wr.heap.size wr w1):Di w h m x j w1 q:=by
 obtain⟨A0,c0,hB,hP⟩:=s.bp
 exact⟨s.b.trans (hb.mono s.b.size),s.bm.below hb s.bm.lt,s.be.below hb s.be.lt,s.br.below hb s.br.lt,A0,c0,hB.below hb hB.lt,hP.below hb⟩
theorem Di.start (h:MH) (m:AC) (x:EvM) (j:EvJ) (A:Option Addr) (c:Nat) (q:AA) (w:World) (hp:PT w (.slice A q.length c) q) :
    Di w h m x j ((((w.alloc (.cells #[.slice h.s m.sT.length h.sc,.slice h.f m.fT.length h.fc,.slice h.r m.rT.length h.rc,.slice h.m m.mT.length h.mc,.slice h.l m.lT.length h.lc,.slice h.i m.iT.length h.ic,.int .i64 m.dT,.int .i64 m.oT,.int .i64 m.vT,.int .i64 m.aT,.slice h.u m.uT.length h.uc] 29)).alloc (.cells #[.slice A q.length c] 56)).alloc (.cells #[.int .i64 x.kind,.int .i64 x.mach,.int .i64 j.v2,.int .i64 j.v3,.int .i64 x.group,.int .i64 j.v5,.string j.v6,.int .i64 j.v7,.int .i64 j.v8,.int .i64 j.v9,.bool j.v10,.int .i64 j.v11,.slice j.A x.old.length j.c,.slice j.A13 j.n13 j.c13,.slice j.A14 j.n14 j.c14,.int .i64 x.hitem,.int .i64 j.v16,.int .i64 x.hstate,.int .i64 j.v18,.int .i64 j.v19,.bool x.gone,.int .i64 x.outcome] 85)).alloc (.cells #[.slice none 0 0] 56)) q:=by
 obtain⟨w1,e1⟩:∃ w1,w1=w.alloc (.cells #[.slice h.s m.sT.length h.sc,.slice h.f m.fT.length h.fc,.slice h.r m.rT.length h.rc,.slice h.m m.mT.length h.mc,.slice h.l m.lT.length h.lc,.slice h.i m.iT.length h.ic,.int .i64 m.dT,.int .i64 m.oT,.int .i64 m.vT,.int .i64 m.aT,.slice h.u m.uT.length h.uc] 29):=⟨_,rfl⟩
 obtain⟨w2,e2⟩:∃ w2,w2=w1.alloc (.cells #[.slice A q.length c] 56):=⟨_,rfl⟩
 obtain⟨w3,e3⟩:∃ w3,w3=w2.alloc (.cells #[.int .i64 x.kind,.int .i64 x.mach,.int .i64 j.v2,.int .i64 j.v3,.int .i64 x.group,.int .i64 j.v5,.string j.v6,.int .i64 j.v7,.int .i64 j.v8,.int .i64 j.v9,.bool j.v10,.int .i64 j.v11,.slice j.A x.old.length j.c,.slice j.A13 j.n13 j.c13,.slice j.A14 j.n14 j.c14,.int .i64 x.hitem,.int .i64 j.v16,.int .i64 x.hstate,.int .i64 j.v18,.int .i64 j.v19,.bool x.gone,.int .i64 x.outcome] 85):=⟨_,rfl⟩
 obtain⟨w4,e4⟩:∃ w4,w4=w3.alloc (.cells #[.slice none 0 0] 56):=⟨_,rfl⟩
 have s1:w1.heap.size=w.heap.size+1:=by rw[e1];simp
 have s2:w2.heap.size=w.heap.size+1+1:=by rw[e2];simp[s1]
 have s3:w3.heap.size=w.heap.size+1+1+1:=by rw[e3];simp[s2]
 have b1:AB w1 w.heap.size 29 #[.slice h.s m.sT.length h.sc,.slice h.f m.fT.length h.fc,.slice h.r m.rT.length h.rc,.slice h.m m.mT.length h.mc,.slice h.l m.lT.length h.lc,.slice h.i m.iT.length h.ic,.int .i64 m.dT,.int .i64 m.oT,.int .i64 m.vT,.int .i64 m.aT,.slice h.u m.uT.length h.uc]:=by rw[e1];exact AB.new _ _ _
 have b2:AB w2 (w.heap.size+1) 56 #[.slice A q.length c]:=by rw[e2,← s1];exact AB.new _ _ _
 have b3:AB w3 (w.heap.size+1+1) 85 #[.int .i64 x.kind,.int .i64 x.mach,.int .i64 j.v2,.int .i64 j.v3,.int .i64 x.group,.int .i64 j.v5,.string j.v6,.int .i64 j.v7,.int .i64 j.v8,.int .i64 j.v9,.bool j.v10,.int .i64 j.v11,.slice j.A x.old.length j.c,.slice j.A13 j.n13 j.c13,.slice j.A14 j.n14 j.c14,.int .i64 x.hitem,.int .i64 j.v16,.int .i64 x.hstate,.int .i64 j.v18,.int .i64 j.v19,.bool x.gone,.int .i64 x.outcome]:=by rw[e3,← s2];exact AB.new _ _ _
 have b4:AB w4 (w.heap.size+1+1+1) 56 #[.slice none 0 0]:=by rw[e4,← s3];exact AB.new _ _ _
 have hb:Below w.heap.size w w4:=by
  rw[e4,e3,e2,e1]
  exact((((Below.refl w.heap.size w).alloc (Nat.le_refl _) _).alloc (by simp) _).alloc (by simp <;> omega) _).alloc (by simp <;> omega) _
 rw[← e1,← e2,← e3,← e4]
 exact⟨hb,by rw[e4,e3,e2];exact((b1.alloc _).alloc _).alloc _,by rw[e4];exact b3.alloc _,b4,A,c,by rw[e4,e3];exact(b2.alloc _).alloc _,hp.below hb⟩
theorem Di.lts{w wr:World}{h:MH}{m:AC}{x:EvM}{j:EvJ}{q:AA}(s:Di w h m x j wr q):w.heap.size+1+1+1<wr.heap.size:=s.br.lt
theorem Di.done {w wr:World} {h:MH} {m:AC} {x:EvM} {j:EvJ} {q:AA} (s:Di w h m x j wr q) {A:Option Addr} {c:Nat} (hp:PT wr (.slice A q.length c) q) :
    BG w q (.returned (.agg #[.slice A q.length c])) (wr.setCell ⟨w.heap.size+1+1+1,0,none⟩ (.slice A q.length c)) :=
 ⟨A,c,rfl,hp.keep (KT.set_ s.br (by decide) 0 _) (KT.set_ s.br (by decide) 0 _),s.b.setCell (by simp <;> omega) _⟩
theorem Lg (h:MH) (m:AC) (x:EvM) (j:EvJ) (A:Option Addr) (c:Nat) (q:AA) (w:World) (d:MD w w.heap.size h m) (hm:m.mT.length≤100) (ho:x.old.length≤100) (hI:Ints w w.heap.size j.A x.old) (hp:PT w (.slice A q.length c) q) (hr:Room 800 q) (hk:x.kind=2) :
    Calls Tryz.prog 64 #[.agg #[.slice h.s m.sT.length h.sc,.slice h.f m.fT.length h.fc,.slice h.r m.rT.length h.rc,.slice h.m m.mT.length h.mc,.slice h.l m.lT.length h.lc,.slice h.i m.iT.length h.ic,.int .i64 m.dT,.int .i64 m.oT,.int .i64 m.vT,.int .i64 m.aT,.slice h.u m.uT.length h.uc],.agg #[.slice A q.length c],.agg #[.int .i64 x.kind,.int .i64 x.mach,.int .i64 j.v2,.int .i64 j.v3,.int .i64 x.group,.int .i64 j.v5,.string j.v6,.int .i64 j.v7,.int .i64 j.v8,.int .i64 j.v9,.bool j.v10,.int .i64 j.v11,.slice j.A x.old.length j.c,.slice j.A13 j.n13 j.c13,.slice j.A14 j.n14 j.c14,.int .i64 x.hitem,.int .i64 j.v16,.int .i64 x.hstate,.int .i64 j.v18,.int .i64 j.v19,.bool x.gone,.int .i64 x.outcome]] w (BG w (x.old.foldl (BH m x.group) (CY q x.group m.mT.length))):=by
 have H0:=hide (Di.start h m x j A c q w hp)
 have g2:(x.kind == 2)=true:=by simpa using hk
 have HR:=hide hr
 have HI:=hide hI
 have HD:=hide d
 clear hk hr hI d hp
 have H0c:=EB.cells H0.out.be
 have hlt:=H0.out.lts
 obtain⟨e0,e1,e4,e12,e15,e16,e17,e18,e19,e20,e21⟩:=H0c
 go_enter Tryz.func64,Tryz.ntmps64
 go_wp2_with fail
 go_loopw [19] (fun i wr=>∃ k:Nat,k≤m.mT.length∧i=.int .i64 k∧Hid (Di w h m x j wr (CY q x.group k))) (fun i _=>m.mT.length - (intOf i).toNat)
 case atStart=>exact⟨0,Nat.zero_le _,rfl,H0⟩
 case round =>
  clear H0 hlt e0 e1 e4 e12 e15 e16 e17 e18 e19 e20 e21
  obtain⟨k,hk,rfl,hS⟩:=hrel
  obtain⟨A1,c1,hB1,hP1⟩:=hS.out.bp
  obtain⟨e0,e1,e4,e12,e15,e16,e17,e18,e19,e20,e21⟩:=EB.cells hS.out.be
  have x0:=hB1.cell 0
  have xl:=hS.out.lts
  simp at x0
  by_cases hlt:k<m.mT.length
  · have HC:=hide (Ij A1 c1 _ x.group ((k:Int)+1) wr hP1 ((HR.out.dropAll1 x.group k).short (by omega)))
    have HX:=hide hB1
    clear hB1 hP1
    go_wp2_with (go_at_call 118;refine HC.out.mono ?_;rintro e w1 ⟨A2,c2,rfl,hp2,hb2⟩;have hN:=hide (hS.out.next hb2 hp2);have hx1:=HX.out.below hb2 HX.out.lt;have y0:=hx1.cell 0;have yf:=hx1.frozen 0;have yl:=hx1.lt;simp at y0;clear hx1 hb2 hp2)
    go_roundw
    case rel=>exact⟨k+1,by omega,by go_num,by rw[← Et];exact hN⟩
    case measure=>simp[intOf];omega
  · obtain rfl:k=m.mT.length:=by omega
    go_wp2_with fail
    obtain⟨q1,hq1⟩:∃ q1,q1=CY q x.group m.mT.length:=⟨_,rfl⟩
    have hR1:Room 800 q1:=by rw[hq1];exact HR.out.dropAll1 _ _
    have HR1:=hide hR1
    have HQ1:=hide hq1
    rw[← hq1] at hS ⊢
    clear hR1 hq1 hB1 hP1 x0 xl e0 e1 e4 e12 e15 e16 e17 e18 e19 e20 e21 hlt hk HR
    go_loopw [33] (fun i wr=>∃ k:Nat,k≤x.old.length∧i=.int .i64 k∧Hid (Di w h m x j wr ((x.old.take k).foldl (BH m x.group) q1))) (fun i _=>x.old.length - (intOf i).toNat)
    case atStart=>exact⟨0,Nat.zero_le _,rfl,hS⟩
    case round =>
     clear hS
     obtain⟨k,hk,rfl,hS⟩:=hrel
     obtain⟨A1,c1,hB1,hP1⟩:=hS.out.bp
     obtain⟨e0,e1,e4,e12,e15,e16,e17,e18,e19,e20,e21⟩:=EB.cells hS.out.be
     obtain⟨a0,a1,a2,a3,a4,a5,a6,a7,a8,a9,a10⟩:=MB.cells hS.out.bm
     have x0:=hB1.cell 0
     have xl:=hS.out.lts
     simp at x0
     obtain⟨q2,hq2⟩:∃ q2,q2=(x.old.take k).foldl (BH m x.group) q1:=⟨_,rfl⟩
     rw[← hq2] at hS hB1 hP1 x0
     have hR2:Room 950 q2:=by rw[hq2];exact(Room.putOlds m x.group _ HR1.out).mono (by simp;omega)
     have HR2:=hide hR2
     clear hR2
     by_cases hlt:k<x.old.length
     · obtain ⟨b,off,hA,hb,z0⟩:=Dy ((HI.out.below hS.out.b).more hS.out.b.size) hlt
       have HQ:=hide (show BH m x.group q2 x.old[k]=(x.old.take (k+1)).foldl (BH m x.group) q1 by
        rw[List.take_succ_eq_append_getElem hlt,List.foldl_append,← hq2];rfl)
       have hmod:IntKind.i64.wrap (x.old[k].tmod 100)=x.old[k].tmod 100:=IntWalk.i64_in _ (by have:=Int.lt_tmod_of_pos x.old[k] (show(0:Int)<100 by decide);have:=Int.tmod_lt_of_pos x.old[k] (show(0:Int)<100 by decide);omega)
       have HX:=hide hB1
       have HP1:=hide hP1
       clear hB1 hP1 hq2
       rw[hA]
       have HE:=hide (fun W:World=>GH h m (x.old[k].tmod 100) W HD.out.ml)
       cases hex:AP (x.old[k].tmod 100) m.mT.length
       · rw[hex] at HE
         go_wp2_with (go_at_call 117;refine(HE.out _).mono ?_;rintro e w1 ⟨rfl,hb1⟩)
         have hq:BH m x.group q2 x.old[k]=q2:=by simp[BH,hex]
         go_roundw
         case rel=>exact⟨k+1,by omega,by go_num,by rw[← HQ.out,hq];exact hS.out.grow hb1⟩
         case measure=>simp[intOf];omega
       · rw[hex] at HE
         go_wp2_with (first
          | (go_at_call 117;refine(HE.out _).mono ?_;rintro e w1 ⟨rfl,hb1⟩;have hxx:=HX.out.below hb1 HX.out.lt;have xx0:=hxx.cell 0;simp at xx0;have hee:=hS.out.be.below hb1 hS.out.be.lt;obtain⟨d0,d1,d4,d12,d15,d16,d17,d18,d19,d20,d21⟩:=EB.cells hee;have hz1:=hb1.size;have HB1:=hide hb1;clear hxx hee;have HC:=hide (IE A1 c1 q2 x.group (x.old[k].tmod 100) 0 w1 (HP1.out.below hb1) (HR2.out.short (by omega)));clear hb1)
          | (go_at_call 119;refine HC.out.mono ?_;rintro e w2 ⟨A2,c2,rfl,hp2,hb2⟩;have hN:=hide ((hS.out.grow HB1.out).next hb2 hp2);have hx1:=(HX.out.below HB1.out HX.out.lt).below hb2 (AB.lt (HX.out.below HB1.out HX.out.lt));have y0:=hx1.cell 0;have yf:=hx1.frozen 0;have yl:=hx1.lt;simp at y0;clear hx1 hb2 hp2))
         have hq:BH m x.group q2 x.old[k]=Cn q2 x.group (x.old[k].tmod 100) 0:=by simp[BH,hex]
         go_roundw
         case rel=>exact⟨k+1,by omega,by go_num,by rw[← HQ.out,hq];exact hN⟩
         case measure=>simp[intOf];omega
     · obtain rfl:k=x.old.length:=by omega
       rw[List.take_length] at hq2
       have HB:=hide hB1
       have HP:=hide hP1
       have rl:=hS.out.br.cell 0
       have rf:=hS.out.br.frozen 0
       simp at rl
       clear hB1 hP1
       go_wp2_with fail
       refine bodyPost_ret (v:=.agg #[.slice A1 q2.length c1]) (by simp[results,Tryz.results64,go_sem, *]) rfl ?_
       rw[← HQ1.out,← hq2]
       exact hS.out.done HP.out
theorem NS {m:AC} {q:AA} {x:EvM} (hk:x.kind≠2) (hg:x.gone=true):Ac m q x=Cf q x.hitem x.mach:=by
 unfold Ac
 rw[if_neg hk]
 simp[hg]
theorem O4 (h:MH) (m:AC) (x:EvM) (j:EvJ) (A:Option Addr) (c:Nat) (q:AA) (w:World) (d:MD w w.heap.size h m) (hp:PT w (.slice A q.length c) q) (hr:Room 900 q) (hk:x.kind≠2) (hg:x.gone=true) :
    Calls Tryz.prog 64 #[.agg #[.slice h.s m.sT.length h.sc,.slice h.f m.fT.length h.fc,.slice h.r m.rT.length h.rc,.slice h.m m.mT.length h.mc,.slice h.l m.lT.length h.lc,.slice h.i m.iT.length h.ic,.int .i64 m.dT,.int .i64 m.oT,.int .i64 m.vT,.int .i64 m.aT,.slice h.u m.uT.length h.uc],.agg #[.slice A q.length c],.agg #[.int .i64 x.kind,.int .i64 x.mach,.int .i64 j.v2,.int .i64 j.v3,.int .i64 x.group,.int .i64 j.v5,.string j.v6,.int .i64 j.v7,.int .i64 j.v8,.int .i64 j.v9,.bool j.v10,.int .i64 j.v11,.slice j.A x.old.length j.c,.slice j.A13 j.n13 j.c13,.slice j.A14 j.n14 j.c14,.int .i64 x.hitem,.int .i64 j.v16,.int .i64 x.hstate,.int .i64 j.v18,.int .i64 j.v19,.bool x.gone,.int .i64 x.outcome]] w (BG w (Ac m q x)):=by
 have H0:=hide (Di.start h m x j A c q w hp)
 have HV:=hide (NS (m:=m) (q:=q) hk hg)
 rw[hg] at H0
 have g2:(x.kind == 2)=false:=by simpa using hk
 have HR:=hide (hr.short (by omega))
 have HD:=hide d
 clear hk hr d hp
 obtain⟨e0,e1,e4,e12,e15,e16,e17,e18,e19,e20,e21⟩:=EB.cells H0.out.be
 have hlt:=H0.out.lts
 rw[HV.out]
 go_enter Tryz.func64,Tryz.ntmps64
 go_wp2_with (first
  | (go_at_call 32;refine(Cx h m x.hitem _ (by have h1:=HD.out.grow H0.out.b;exact h1.grow ((Below.refl _ _).alloc (Nat.le_refl _) _))).mono ?_;rintro e w1 ⟨rfl,hb1⟩
     have HB1:=hide (((Below.refl _ _).alloc (Nat.le_refl _) _).trans (hb1.mono (by simp <;> omega)))
     have HS1:=hide (H0.out.grow HB1.out)
     obtain⟨d0,d1,d4,d12,d15,d16,d17,d18,d19,d20,d21⟩:=EB.cells HS1.out.be
     have hlt1:=HS1.out.lts
     obtain⟨A1,c1,hBp,hPp⟩:=HS1.out.bp
     have p0:=hBp.cell 0
     simp at p0
     have r0:=HS1.out.br.cell 0
     have rf:=HS1.out.br.frozen 0
     simp at r0
     obtain⟨cc,cf⟩:=ET hb1
     have hz1:=hb1.size
     simp at hz1
     have HC:=hide (Ij A1 c1 q x.hitem x.mach w1 hPp HR.out)
     clear hb1 hBp hPp)
  | (go_at_call 118;refine HC.out.mono ?_;rintro e w2 ⟨A2,c2,rfl,hp2,hb2⟩
     have HP2:=hide hp2
     have HS2:=hide (HS1.out.grow hb2)
     have s0:=HS2.out.br.cell 0
     have sf:=HS2.out.br.frozen 0
     have slt:=HS2.out.lts
     simp at s0
     clear hb2 hp2))
 refine bodyPost_ret (v:=.agg #[.slice A2 (Cf q x.hitem x.mach).length c2]) (by simp[results,Tryz.results64,go_sem, *]) rfl ?_
 exact⟨A2,c2,rfl,HP2.out.keep (KT.set_ HS2.out.br (by decide) 0 _) (KT.set_ HS2.out.br (by decide) 0 _),HS2.out.b.setCell (by simp <;> omega) _⟩
theorem NT {m:AC} {q:AA} {x:EvM} (hk:x.kind≠2) (hg:x.gone=false) (hp1:(Ai m x.hitem == 1)=true) (hs:(x.hstate != 0)=true):Ac m q x=Cf q x.hitem x.mach:=by
 unfold Ac
 rw[if_neg hk]
 simp at hp1 hs;simp[hg,hp1,hs]
theorem O5 (h:MH) (m:AC) (x:EvM) (j:EvJ) (A:Option Addr) (c:Nat) (q:AA) (w:World) (d:MD w w.heap.size h m) (hp:PT w (.slice A q.length c) q) (hr:Room 900 q) (hk:x.kind≠2) (hg:x.gone=false) (hp1:(Ai m x.hitem == 1)=true) (hs:(x.hstate != 0)=true) :
    Calls Tryz.prog 64 #[.agg #[.slice h.s m.sT.length h.sc,.slice h.f m.fT.length h.fc,.slice h.r m.rT.length h.rc,.slice h.m m.mT.length h.mc,.slice h.l m.lT.length h.lc,.slice h.i m.iT.length h.ic,.int .i64 m.dT,.int .i64 m.oT,.int .i64 m.vT,.int .i64 m.aT,.slice h.u m.uT.length h.uc],.agg #[.slice A q.length c],.agg #[.int .i64 x.kind,.int .i64 x.mach,.int .i64 j.v2,.int .i64 j.v3,.int .i64 x.group,.int .i64 j.v5,.string j.v6,.int .i64 j.v7,.int .i64 j.v8,.int .i64 j.v9,.bool j.v10,.int .i64 j.v11,.slice j.A x.old.length j.c,.slice j.A13 j.n13 j.c13,.slice j.A14 j.n14 j.c14,.int .i64 x.hitem,.int .i64 j.v16,.int .i64 x.hstate,.int .i64 j.v18,.int .i64 j.v19,.bool x.gone,.int .i64 x.outcome]] w (BG w (Ac m q x)):=by
 have H0:=hide (Di.start h m x j A c q w hp)
 have HV:=hide (NT (m:=m) (q:=q) hk hg hp1 hs)
 rw[hg] at H0
 have g2:(x.kind == 2)=false:=by simpa using hk
 have HR:=hide (hr.short (by omega))
 have HD:=hide d
 clear hk hr d hp
 obtain⟨e0,e1,e4,e12,e15,e16,e17,e18,e19,e20,e21⟩:=EB.cells H0.out.be
 have hlt:=H0.out.lts
 rw[HV.out]
 go_enter Tryz.func64,Tryz.ntmps64
 go_wp2_with (first
  | (go_at_call 32;refine(Cx h m x.hitem _ (by have h1:=HD.out.grow H0.out.b;exact h1.grow ((Below.refl _ _).alloc (Nat.le_refl _) _))).mono ?_;rintro e w1 ⟨rfl,hb1⟩
     have HB1:=hide (((Below.refl _ _).alloc (Nat.le_refl _) _).trans (hb1.mono (by simp <;> omega)))
     have HS1:=hide (H0.out.grow HB1.out)
     obtain⟨d0,d1,d4,d12,d15,d16,d17,d18,d19,d20,d21⟩:=EB.cells HS1.out.be
     have hlt1:=HS1.out.lts
     obtain⟨A1,c1,hBp,hPp⟩:=HS1.out.bp
     have p0:=hBp.cell 0
     simp at p0
     have r0:=HS1.out.br.cell 0
     have rf:=HS1.out.br.frozen 0
     simp at r0
     obtain⟨cc,cf⟩:=ET hb1
     have hz1:=hb1.size
     simp at hz1
     have HC:=hide (Ij A1 c1 q x.hitem x.mach w1 hPp HR.out)
     clear hb1 hBp hPp)
  | (go_at_call 118;refine HC.out.mono ?_;rintro e w2 ⟨A2,c2,rfl,hp2,hb2⟩
     have HP2:=hide hp2
     have HS2:=hide (HS1.out.grow hb2)
     have s0:=HS2.out.br.cell 0
     have sf:=HS2.out.br.frozen 0
     have slt:=HS2.out.lts
     simp at s0
     clear hb2 hp2))
 refine bodyPost_ret (v:=.agg #[.slice A2 (Cf q x.hitem x.mach).length c2]) (by simp[results,Tryz.results64,go_sem, *]) rfl ?_
 exact⟨A2,c2,rfl,HP2.out.keep (KT.set_ HS2.out.br (by decide) 0 _) (KT.set_ HS2.out.br (by decide) 0 _),HS2.out.b.setCell (by simp <;> omega) _⟩
theorem O3 {m:AC} {q:AA} {x:EvM} (hk:x.kind≠2) (hg:x.gone=false) (hp1:(Ai m x.hitem == 1)=true) (hs:(x.hstate != 0)=false):Ac m q x=Cn q x.hitem x.mach 0:=by
 unfold Ac
 rw[if_neg hk]
 simp at hp1 hs;simp[hg,hp1,hs]
theorem QV (h:MH) (m:AC) (x:EvM) (j:EvJ) (A:Option Addr) (c:Nat) (q:AA) (w:World) (d:MD w w.heap.size h m) (hp:PT w (.slice A q.length c) q) (hr:Room 900 q) (hk:x.kind≠2) (hg:x.gone=false) (hp1:(Ai m x.hitem == 1)=true) (hs:(x.hstate != 0)=false) :
    Calls Tryz.prog 64 #[.agg #[.slice h.s m.sT.length h.sc,.slice h.f m.fT.length h.fc,.slice h.r m.rT.length h.rc,.slice h.m m.mT.length h.mc,.slice h.l m.lT.length h.lc,.slice h.i m.iT.length h.ic,.int .i64 m.dT,.int .i64 m.oT,.int .i64 m.vT,.int .i64 m.aT,.slice h.u m.uT.length h.uc],.agg #[.slice A q.length c],.agg #[.int .i64 x.kind,.int .i64 x.mach,.int .i64 j.v2,.int .i64 j.v3,.int .i64 x.group,.int .i64 j.v5,.string j.v6,.int .i64 j.v7,.int .i64 j.v8,.int .i64 j.v9,.bool j.v10,.int .i64 j.v11,.slice j.A x.old.length j.c,.slice j.A13 j.n13 j.c13,.slice j.A14 j.n14 j.c14,.int .i64 x.hitem,.int .i64 j.v16,.int .i64 x.hstate,.int .i64 j.v18,.int .i64 j.v19,.bool x.gone,.int .i64 x.outcome]] w (BG w (Ac m q x)):=by
 have H0:=hide (Di.start h m x j A c q w hp)
 have HV:=hide (O3 (m:=m) (q:=q) hk hg hp1 hs)
 rw[hg] at H0
 have g2:(x.kind == 2)=false:=by simpa using hk
 have HR:=hide (hr.short (by omega))
 have HD:=hide d
 clear hk hr d hp
 obtain⟨e0,e1,e4,e12,e15,e16,e17,e18,e19,e20,e21⟩:=EB.cells H0.out.be
 have hlt:=H0.out.lts
 rw[HV.out]
 go_enter Tryz.func64,Tryz.ntmps64
 go_wp2_with (first
  | (go_at_call 32;refine(Cx h m x.hitem _ (by have h1:=HD.out.grow H0.out.b;exact h1.grow ((Below.refl _ _).alloc (Nat.le_refl _) _))).mono ?_;rintro e w1 ⟨rfl,hb1⟩
     have HB1:=hide (((Below.refl _ _).alloc (Nat.le_refl _) _).trans (hb1.mono (by simp <;> omega)))
     have HS1:=hide (H0.out.grow HB1.out)
     obtain⟨d0,d1,d4,d12,d15,d16,d17,d18,d19,d20,d21⟩:=EB.cells HS1.out.be
     have hlt1:=HS1.out.lts
     obtain⟨A1,c1,hBp,hPp⟩:=HS1.out.bp
     have p0:=hBp.cell 0
     simp at p0
     have r0:=HS1.out.br.cell 0
     have rf:=HS1.out.br.frozen 0
     simp at r0
     obtain⟨cc,cf⟩:=ET hb1
     have hz1:=hb1.size
     simp at hz1
     have HC:=hide (IE A1 c1 q x.hitem x.mach 0 w1 hPp HR.out)
     clear hb1 hBp hPp)
  | (go_at_call 119;refine HC.out.mono ?_;rintro e w2 ⟨A2,c2,rfl,hp2,hb2⟩
     have HP2:=hide hp2
     have HS2:=hide (HS1.out.grow hb2)
     have s0:=HS2.out.br.cell 0
     have sf:=HS2.out.br.frozen 0
     have slt:=HS2.out.lts
     simp at s0
     clear hb2 hp2))
 refine bodyPost_ret (v:=.agg #[.slice A2 (Cn q x.hitem x.mach 0).length c2]) (by simp[results,Tryz.results64,go_sem, *]) rfl ?_
 exact⟨A2,c2,rfl,HP2.out.keep (KT.set_ HS2.out.br (by decide) 0 _) (KT.set_ HS2.out.br (by decide) 0 _),HS2.out.b.setCell (by simp <;> omega) _⟩
theorem Lf {m:AC} {q:AA} {x:EvM} (hk:x.kind≠2) (hg:x.gone=false) (hp1:(Ai m x.hitem == 1)=false) (hs:(x.hstate == 2)=true):Ac m q x=Cn q x.hitem x.mach 2:=by
 unfold Ac
 rw[if_neg hk]
 simp at hp1 hs;simp[hg,hp1,hs]
theorem MQ (h:MH) (m:AC) (x:EvM) (j:EvJ) (A:Option Addr) (c:Nat) (q:AA) (w:World) (d:MD w w.heap.size h m) (hp:PT w (.slice A q.length c) q) (hr:Room 900 q) (hk:x.kind≠2) (hg:x.gone=false) (hp1:(Ai m x.hitem == 1)=false) (hs:(x.hstate == 2)=true) :
    Calls Tryz.prog 64 #[.agg #[.slice h.s m.sT.length h.sc,.slice h.f m.fT.length h.fc,.slice h.r m.rT.length h.rc,.slice h.m m.mT.length h.mc,.slice h.l m.lT.length h.lc,.slice h.i m.iT.length h.ic,.int .i64 m.dT,.int .i64 m.oT,.int .i64 m.vT,.int .i64 m.aT,.slice h.u m.uT.length h.uc],.agg #[.slice A q.length c],.agg #[.int .i64 x.kind,.int .i64 x.mach,.int .i64 j.v2,.int .i64 j.v3,.int .i64 x.group,.int .i64 j.v5,.string j.v6,.int .i64 j.v7,.int .i64 j.v8,.int .i64 j.v9,.bool j.v10,.int .i64 j.v11,.slice j.A x.old.length j.c,.slice j.A13 j.n13 j.c13,.slice j.A14 j.n14 j.c14,.int .i64 x.hitem,.int .i64 j.v16,.int .i64 x.hstate,.int .i64 j.v18,.int .i64 j.v19,.bool x.gone,.int .i64 x.outcome]] w (BG w (Ac m q x)):=by
 have H0:=hide (Di.start h m x j A c q w hp)
 have HV:=hide (Lf (m:=m) (q:=q) hk hg hp1 hs)
 rw[hg] at H0
 have g2:(x.kind == 2)=false:=by simpa using hk
 have HR:=hide (hr.short (by omega))
 have HD:=hide d
 clear hk hr d hp
 obtain⟨e0,e1,e4,e12,e15,e16,e17,e18,e19,e20,e21⟩:=EB.cells H0.out.be
 have hlt:=H0.out.lts
 rw[HV.out]
 go_enter Tryz.func64,Tryz.ntmps64
 go_wp2_with (first
  | (go_at_call 32;refine(Cx h m x.hitem _ (by have h1:=HD.out.grow H0.out.b;exact h1.grow ((Below.refl _ _).alloc (Nat.le_refl _) _))).mono ?_;rintro e w1 ⟨rfl,hb1⟩
     have HB1:=hide (((Below.refl _ _).alloc (Nat.le_refl _) _).trans (hb1.mono (by simp <;> omega)))
     have HS1:=hide (H0.out.grow HB1.out)
     obtain⟨d0,d1,d4,d12,d15,d16,d17,d18,d19,d20,d21⟩:=EB.cells HS1.out.be
     have hlt1:=HS1.out.lts
     obtain⟨A1,c1,hBp,hPp⟩:=HS1.out.bp
     have p0:=hBp.cell 0
     simp at p0
     have r0:=HS1.out.br.cell 0
     have rf:=HS1.out.br.frozen 0
     simp at r0
     obtain⟨cc,cf⟩:=ET hb1
     have hz1:=hb1.size
     simp at hz1
     have HC:=hide (IE A1 c1 q x.hitem x.mach 2 w1 hPp HR.out)
     clear hb1 hBp hPp)
  | (go_at_call 119;refine HC.out.mono ?_;rintro e w2 ⟨A2,c2,rfl,hp2,hb2⟩
     have HP2:=hide hp2
     have HS2:=hide (HS1.out.grow hb2)
     have s0:=HS2.out.br.cell 0
     have sf:=HS2.out.br.frozen 0
     have slt:=HS2.out.lts
     simp at s0
     clear hb2 hp2))
 refine bodyPost_ret (v:=.agg #[.slice A2 (Cn q x.hitem x.mach 2).length c2]) (by simp[results,Tryz.results64,go_sem, *]) rfl ?_
 exact⟨A2,c2,rfl,HP2.out.keep (KT.set_ HS2.out.br (by decide) 0 _) (KT.set_ HS2.out.br (by decide) 0 _),HS2.out.b.setCell (by simp <;> omega) _⟩
theorem O1 {m:AC} {q:AA} {x:EvM} (hk:x.kind≠2) (hg:x.gone=false) (hp1:(Ai m x.hitem == 1)=false) (hs:(x.hstate == 2)=false):Ac m q x=Cn q x.hitem x.mach 0:=by
 unfold Ac
 rw[if_neg hk]
 simp at hp1 hs;simp[hg,hp1,hs]
theorem QU (h:MH) (m:AC) (x:EvM) (j:EvJ) (A:Option Addr) (c:Nat) (q:AA) (w:World) (d:MD w w.heap.size h m) (hp:PT w (.slice A q.length c) q) (hr:Room 900 q) (hk:x.kind≠2) (hg:x.gone=false) (hp1:(Ai m x.hitem == 1)=false) (hs:(x.hstate == 2)=false) :
    Calls Tryz.prog 64 #[.agg #[.slice h.s m.sT.length h.sc,.slice h.f m.fT.length h.fc,.slice h.r m.rT.length h.rc,.slice h.m m.mT.length h.mc,.slice h.l m.lT.length h.lc,.slice h.i m.iT.length h.ic,.int .i64 m.dT,.int .i64 m.oT,.int .i64 m.vT,.int .i64 m.aT,.slice h.u m.uT.length h.uc],.agg #[.slice A q.length c],.agg #[.int .i64 x.kind,.int .i64 x.mach,.int .i64 j.v2,.int .i64 j.v3,.int .i64 x.group,.int .i64 j.v5,.string j.v6,.int .i64 j.v7,.int .i64 j.v8,.int .i64 j.v9,.bool j.v10,.int .i64 j.v11,.slice j.A x.old.length j.c,.slice j.A13 j.n13 j.c13,.slice j.A14 j.n14 j.c14,.int .i64 x.hitem,.int .i64 j.v16,.int .i64 x.hstate,.int .i64 j.v18,.int .i64 j.v19,.bool x.gone,.int .i64 x.outcome]] w (BG w (Ac m q x)):=by
 have H0:=hide (Di.start h m x j A c q w hp)
 have HV:=hide (O1 (m:=m) (q:=q) hk hg hp1 hs)
 rw[hg] at H0
 have g2:(x.kind == 2)=false:=by simpa using hk
 have HR:=hide (hr.short (by omega))
 have HD:=hide d
 clear hk hr d hp
 obtain⟨e0,e1,e4,e12,e15,e16,e17,e18,e19,e20,e21⟩:=EB.cells H0.out.be
 have hlt:=H0.out.lts
 rw[HV.out]
 go_enter Tryz.func64,Tryz.ntmps64
 go_wp2_with (first
  | (go_at_call 32;refine(Cx h m x.hitem _ (by have h1:=HD.out.grow H0.out.b;exact h1.grow ((Below.refl _ _).alloc (Nat.le_refl _) _))).mono ?_;rintro e w1 ⟨rfl,hb1⟩
     have HB1:=hide (((Below.refl _ _).alloc (Nat.le_refl _) _).trans (hb1.mono (by simp <;> omega)))
     have HS1:=hide (H0.out.grow HB1.out)
     obtain⟨d0,d1,d4,d12,d15,d16,d17,d18,d19,d20,d21⟩:=EB.cells HS1.out.be
     have hlt1:=HS1.out.lts
     obtain⟨A1,c1,hBp,hPp⟩:=HS1.out.bp
     have p0:=hBp.cell 0
     simp at p0
     have r0:=HS1.out.br.cell 0
     have rf:=HS1.out.br.frozen 0
     simp at r0
     obtain⟨cc,cf⟩:=ET hb1
     have hz1:=hb1.size
     simp at hz1
     have HC:=hide (IE A1 c1 q x.hitem x.mach 0 w1 hPp HR.out)
     clear hb1 hBp hPp)
  | (go_at_call 119;refine HC.out.mono ?_;rintro e w2 ⟨A2,c2,rfl,hp2,hb2⟩
     have HP2:=hide hp2
     have HS2:=hide (HS1.out.grow hb2)
     have s0:=HS2.out.br.cell 0
     have sf:=HS2.out.br.frozen 0
     have slt:=HS2.out.lts
     simp at s0
     clear hb2 hp2))
 refine bodyPost_ret (v:=.agg #[.slice A2 (Cn q x.hitem x.mach 0).length c2]) (by simp[results,Tryz.results64,go_sem, *]) rfl ?_
 exact⟨A2,c2,rfl,HP2.out.keep (KT.set_ HS2.out.br (by decide) 0 _) (KT.set_ HS2.out.br (by decide) 0 _),HS2.out.b.setCell (by simp <;> omega) _⟩
theorem O6 (h:MH) (m:AC) (x:EvM) (j:EvJ) (A:Option Addr) (c:Nat) (q:AA) (w:World) (d:MD w w.heap.size h m) (hm:m.mT.length≤100) (ho:x.old.length≤100) (hI:Ints w w.heap.size j.A x.old) (hp:PT w (.slice A q.length c) q) (hr:Room 800 q) :
    Calls Tryz.prog 64 #[.agg #[.slice h.s m.sT.length h.sc,.slice h.f m.fT.length h.fc,.slice h.r m.rT.length h.rc,.slice h.m m.mT.length h.mc,.slice h.l m.lT.length h.lc,.slice h.i m.iT.length h.ic,.int .i64 m.dT,.int .i64 m.oT,.int .i64 m.vT,.int .i64 m.aT,.slice h.u m.uT.length h.uc],.agg #[.slice A q.length c],.agg #[.int .i64 x.kind,.int .i64 x.mach,.int .i64 j.v2,.int .i64 j.v3,.int .i64 x.group,.int .i64 j.v5,.string j.v6,.int .i64 j.v7,.int .i64 j.v8,.int .i64 j.v9,.bool j.v10,.int .i64 j.v11,.slice j.A x.old.length j.c,.slice j.A13 j.n13 j.c13,.slice j.A14 j.n14 j.c14,.int .i64 x.hitem,.int .i64 j.v16,.int .i64 x.hstate,.int .i64 j.v18,.int .i64 j.v19,.bool x.gone,.int .i64 x.outcome]] w (BG w (Ac m q x)):=by
 by_cases hk:x.kind=2
 · have:=Lg h m x j A c q w d hm ho hI hp hr hk
   rw[show Ac m q x=x.old.foldl (BH m x.group) (CY q x.group m.mT.length) by simp[Ac,hk]]
   exact this
 · have hr9:=hr.mono (show 800≤900 by omega)
   have hB:∀ b:Bool,b=false∨b=true:=fun b=>by cases b <;> simp
   rcases hB x.gone with hg|hg
   · rcases hB (Ai m x.hitem == 1) with hp1|hp1
     · rcases hB (x.hstate == 2) with hs|hs
       · exact QU h m x j A c q w d hp hr9 hk hg hp1 hs
       · exact MQ h m x j A c q w d hp hr9 hk hg hp1 hs
     · rcases hB (x.hstate != 0) with hs|hs
       · exact QV h m x j A c q w d hp hr9 hk hg hp1 hs
       · exact O5 h m x j A c q w d hp hr9 hk hg hp1 hs
   · exact O4 h m x j A c q w d hp hr9 hk hg
end Go.Proofs.YtfemlajeomohhaaGreatDoor
