/- A part of the claim: see its last text. -/
import Derived.Test.YtfemlajeomohhaaGreatDoorUK28

set_option maxRecDepth 100000
set_option maxHeartbeats 16000000
namespace Go.Proofs.YtfemlajeomohhaaGreatDoor
open Go Go.RowKit Go.Proofs
structure Tk (m:AC):Prop where
 ls:m.sT.length≤24
 lf:m.fT.length≤24
 lr:m.rT.length≤24
 lm:m.mT.length≤24
 li:m.iT.length≤24
 lu:m.uT.length≤48
def U0(m:AC)(w:World)(e:Ending)(w':World):Prop:=(∃ b:Bool,e=.returned (.bool b)∧(b=true→Tk m))∧Below w.heap.size w w'
def Ug(w:World)(e:Ending)(w':World):Prop:=(∃ b,e=.returned (.bool b))∧Below w.heap.size w w'
theorem Qm (h : MH) (m:AC) (w:World) (d:MD w w.heap.size h m) :
    Calls Tryz.prog 4 #[.agg #[.slice h.s m.sT.length h.sc,.slice h.f m.fT.length h.fc,.slice h.r m.rT.length h.rc,.slice h.m m.mT.length h.mc,.slice h.l m.lT.length h.lc,.slice h.i m.iT.length h.ic,.int .i64 m.dT,.int .i64 m.oT,.int .i64 m.vT,.int .i64 m.aT,.slice h.u m.uT.length h.uc]] w (U0 m w):=by
 have l0:=d.sl
 have l1:=d.fl
 have l2:=d.rl
 have l3:=d.ml
 have l5:=d.il
 have l6:=d.ul
 have D:=hide d;clear d
 by_cases hbad:24<m.sT.length∨24<m.fT.length∨24<m.rT.length∨24<m.mT.length∨24<m.lT.length∨24<m.iT.length∨48<m.uT.length
 · clear l0 l1 l2 l3 l5 l6 D
   rcases hbad with q|q|q|q|q|q|q
   all_goals
    go_enter Tryz.func4,Tryz.ntmps4
    go_wp2_with fail
    all_goals
     go_ret
     exact⟨⟨false,rfl,fun e=>absurd e (by simp)⟩,(Below.refl _ _).alloc (Nat.le_refl _) _⟩
 · obtain ⟨q0, q1, q2,q3,q4,q5,q6⟩:¬ 24<m.sT.length∧¬ 24<m.fT.length∧¬ 24<m.rT.length∧¬ 24<m.mT.length∧¬ 24<m.lT.length∧¬ 24<m.iT.length∧¬ 48<m.uT.length:=by omega
   have HQ:=hide (show Tk m from⟨by omega,by omega,by omega,by omega,by omega,by omega⟩)
   clear hbad
   go_enter Tryz.func4,Tryz.ntmps4
   go_wp2_with fail
   clear q0 q1 q2 q3 q4 q5 q6
   go_loopw [3,4] (fun v i wr=>∃ (k:Nat) (n:Int),k≤m.sT.length∧i=.int .i64 k∧v=.int .i64 n∧Hid (MW w w.heap.size wr h m)) (fun _ i _=>m.sT.length - (intOf i).toNat)
   case atStart=>exact⟨0,_,Nat.zero_le _,rfl,rfl,MW.start w h m⟩
   case round =>
    obtain⟨k,n,hk,rfl,rfl,hW⟩:=hrel
    obtain⟨a0,a1,a2,a3,a4,a5,a6,a7,a8,a9,a10⟩:=MB.cells hW.out.blk
    have hL1:=hW.out.lt
    clear a1 a2 a3 a4 a5 a6 a7 a8 a9 a10
    by_cases hlt:k<m.sT.length
    · obtain⟨b,off,hA,hb,x0⟩:=GY (hW.out.md D.out).dS hlt
      rw[hA] at a0
      clear hA
      have hsz:m.sT[k].size≤9223372036854775807:=D.out.sf _ (List.getElem_mem _)
      go_wp2_with fail
      all_goals
       go_roundw
       case rel=>exact⟨k+1,_,by omega,by go_num,rfl,hW⟩
       case measure=>simp[intOf];omega
    · go_wp2_with fail
      go_loopw [3,5] (fun v i wr=>∃ (k:Nat) (n:Int),k≤m.fT.length∧i=.int .i64 k∧v=.int .i64 n∧Hid (MW w w.heap.size wr h m)) (fun _ i _=>m.fT.length - (intOf i).toNat)
      case atStart=>exact⟨0,_,Nat.zero_le _,rfl,rfl,hW⟩
      case round =>
       clear hW hL1 a0
       obtain⟨k,n,hk,rfl,rfl,hW⟩:=hrel
       obtain⟨a0,a1,a2,a3,a4,a5,a6,a7,a8,a9,a10⟩:=MB.cells hW.out.blk
       have hL1:=hW.out.lt
       clear a0 a2 a3 a4 a5 a6 a7 a8 a9 a10
       by_cases hlt:k<m.fT.length
       · obtain⟨b,off,hA,hb,x0⟩:=GY (hW.out.md D.out).dF hlt
         rw[hA] at a1
         clear hA
         have hsz:m.fT[k].size≤9223372036854775807:=D.out.ff _ (List.getElem_mem _)
         go_wp2_with fail
         all_goals
          go_roundw
          case rel=>exact⟨k+1,_,by omega,by go_num,rfl,hW⟩
          case measure=>simp[intOf];omega
       · go_wp2_with fail
         go_loopw [3,6] (fun v i wr=>∃ (k:Nat) (n:Int),k≤m.rT.length∧i=.int .i64 k∧v=.int .i64 n∧Hid (MW w w.heap.size wr h m)) (fun _ i _=>m.rT.length - (intOf i).toNat)
         case atStart=>exact⟨0,_,Nat.zero_le _,rfl,rfl,hW⟩
         case round =>
          clear hW hL1 a1
          obtain⟨k,n,hk,rfl,rfl,hW⟩:=hrel
          obtain⟨a0,a1,a2,a3,a4,a5,a6,a7,a8,a9,a10⟩:=MB.cells hW.out.blk
          have hL1:=hW.out.lt
          clear a0 a1 a3 a4 a5 a6 a7 a8 a9 a10
          by_cases hlt:k<m.rT.length
          · obtain⟨b,off,hA,hb,x0,x1,x2,hsz⟩:=(hW.out.md D.out).dR.rack hlt
            rw[hA] at a2
            clear hA
            go_wp2_with fail
            all_goals
             go_roundw
             case rel=>exact⟨k+1,_,by omega,by go_num,rfl,hW⟩
             case measure=>simp[intOf];omega
          · go_wp2_with fail
            go_loopw [3,7] (fun v i wr=>∃ (k:Nat) (n:Int),k≤m.mT.length∧i=.int .i64 k∧v=.int .i64 n∧Hid (MW w w.heap.size wr h m)) (fun _ i _=>m.mT.length - (intOf i).toNat)
            case atStart=>exact⟨0,_,Nat.zero_le _,rfl,rfl,hW⟩
            case round =>
             clear hW hL1 a2
             obtain⟨k,n,hk,rfl,rfl,hW⟩:=hrel
             obtain⟨a0,a1,a2,a3,a4,a5,a6,a7,a8,a9,a10⟩:=MB.cells hW.out.blk
             have hL1:=hW.out.lt
             clear a0 a1 a2 a4 a5 a6 a7 a8 a9 a10
             by_cases hlt:k<m.mT.length
             · obtain⟨b,off,hA,hb,x0,x1,x2,hsz⟩:=(hW.out.md D.out).dM.mach hlt
               rw[hA] at a3
               clear hA
               go_wp2_with fail
               all_goals
                go_roundw
                case rel=>exact⟨k+1,_,by omega,by go_num,rfl,hW⟩
                case measure=>simp[intOf];omega
             · go_wp2_with fail
               go_loopw [3,8] (fun v i wr=>∃ (k:Nat) (n:Int),k≤m.iT.length∧i=.int .i64 k∧v=.int .i64 n∧Hid (MW w w.heap.size wr h m)) (fun _ i _=>m.iT.length - (intOf i).toNat)
               case atStart=>exact⟨0,_,Nat.zero_le _,rfl,rfl,hW⟩
               case round =>
                clear hW hL1 a3
                obtain⟨k,n,hk,rfl,rfl,hW⟩:=hrel
                obtain⟨a0,a1,a2,a3,a4,a5,a6,a7,a8,a9,a10⟩:=MB.cells hW.out.blk
                have hL1:=hW.out.lt
                clear a0 a1 a2 a3 a4 a6 a7 a8 a9 a10
                by_cases hlt:k<m.iT.length
                · obtain⟨b,off,A2,c2,hA,hb,x0,x1,x2,x3,x4,x5,x6,hsz,_⟩:=(hW.out.md D.out).dI.item hlt
                  rw[hA] at a5
                  clear hA
                  have hltI:(k:Int)<(m.iT.length:Int):=by omega
                  go_wp2_with fail
                  go_quiet (fail)
                  go_wp2_with fail
                  all_goals
                   go_roundw
                   case rel=>exact⟨k+1,_,by omega,by go_num,rfl,hide (hW.out.drewN _)⟩
                   case measure=>simp[intOf];omega
                · go_wp2_with fail
                  go_loopw [3,9] (fun v i wr=>∃ (k:Nat) (n:Int),k≤m.uT.length∧i=.int .i64 k∧v=.int .i64 n∧Hid (MW w w.heap.size wr h m)) (fun _ i _=>m.uT.length - (intOf i).toNat)
                  case atStart=>exact⟨0,_,Nat.zero_le _,rfl,rfl,hW⟩
                  case round =>
                   clear hW hL1 a5
                   obtain⟨k,n,hk,rfl,rfl,hW⟩:=hrel
                   obtain⟨a0,a1,a2,a3,a4,a5,a6,a7,a8,a9,a10⟩:=MB.cells hW.out.blk
                   have hL1:=hW.out.lt
                   clear a0 a1 a2 a3 a4 a5 a6 a7 a8 a9
                   by_cases hlt:k<m.uT.length
                   · obtain⟨b,off,A2,c2,hA,hb,x0,x1,x2,x3,x4,x5,x6,_⟩:=(hW.out.md D.out).dU.rule hlt
                     rw[hA] at a10
                     clear hA
                     go_wp2_with fail
                     all_goals
                      go_roundw
                      case rel=>exact⟨k+1,_,by omega,by go_num,rfl,hW⟩
                      case measure=>simp[intOf];omega
                   · go_wp2_with fail
                     go_ret
                     exact⟨⟨_,rfl,fun _=>HQ.out⟩,hW.out.b⟩
theorem Gc (h:MH) (m:AC) (w:World) (d:MD w w.heap.size h m):Calls Tryz.prog 4 #[.agg #[.slice h.s m.sT.length h.sc,.slice h.f m.fT.length h.fc,.slice h.r m.rT.length h.rc,.slice h.m m.mT.length h.mc,.slice h.l m.lT.length h.lc,.slice h.i m.iT.length h.ic,.int .i64 m.dT,.int .i64 m.oT,.int .i64 m.vT,.int .i64 m.aT,.slice h.u m.uT.length h.uc]] w (Ug w) :=
 (Qm h m w d).mono fun _ _ h=>⟨⟨h.1.choose,h.1.choose_spec.1⟩,h.2⟩
def Ua (m:AC) (l:List EvM) (most:Int) (w:World) (e:Ending) (w':World):Prop :=
 ∃ b:Bool,e=.returned (.bool b)∧Below w.heap.size w w'∧(b=true→Ab m=true∧(l.length:Int)≤most∧∀ x∈l,x.old.length≤10)
theorem Qn (h : MH) (m:AC) (l:List EvM) (A:Option Addr) (c:Nat) (most:Int) (w:World) (d:MD w w.heap.size h m) (hE:Rows BD 22 w w.heap.size A l) (hl:l.length≤9223372036854775807) :
    Calls Tryz.prog 12 #[.agg #[.slice h.s m.sT.length h.sc,.slice h.f m.fT.length h.fc,.slice h.r m.rT.length h.rc,.slice h.m m.mT.length h.mc,.slice h.l m.lT.length h.lc,.slice h.i m.iT.length h.ic,.int .i64 m.dT,.int .i64 m.oT,.int .i64 m.vT,.int .i64 m.aT,.slice h.u m.uT.length h.uc],.slice A l.length c,.int .i64 most] w (Ua m l most w):=by
 have hb:=(Below.refl w.heap.size w).alloc (Nat.le_refl _) (.cells #[.slice h.s m.sT.length h.sc,.slice h.f m.fT.length h.fc,.slice h.r m.rT.length h.rc,.slice h.m m.mT.length h.mc,.slice h.l m.lT.length h.lc,.slice h.i m.iT.length h.ic,.int .i64 m.dT,.int .i64 m.oT,.int .i64 m.vT,.int .i64 m.aT,.slice h.u m.uT.length h.uc] 29)
 have HB:=hide hb
 have HF:=hide (Gc h m _ (d.grow hb))
 have HV:=hide (fun W (hW:Below w.heap.size w W)=>He h m W ((d.below hW).more hW.size))
 have HM0:=hide (AB.new w 29 #[.slice h.s m.sT.length h.sc,.slice h.f m.fT.length h.fc,.slice h.r m.rT.length h.rc,.slice h.m m.mT.length h.mc,.slice h.l m.lT.length h.lc,.slice h.i m.iT.length h.ic,.int .i64 m.dT,.int .i64 m.oT,.int .i64 m.vT,.int .i64 m.aT,.slice h.u m.uT.length h.uc])
 have HE:=hide hE
 clear hb d hE
 cases hv:Ab m
 · rw [hv] at HV
   clear hl hv HE
   go_enter Tryz.func12,Tryz.ntmps12
   go_wp2_with (first
    | (go_at_call 4;refine HF.out.mono ?_;rintro e w1 ⟨⟨b,rfl⟩,hb1⟩;have hm1:=HM0.out.below hb1 (by simp);obtain⟨a0,a1,a2,a3,a4,a5,a6,a7,a8,a9,a10⟩:=MB.cells hm1;have lt1:=hm1.lt;have HB1:=hide (HB.out.trans (hb1.mono (by simp)));clear hm1 hb1;cases b)
    | (go_at_call 6;refine(HV.out _ HB1.out).mono ?_;rintro e w2 ⟨rfl,hb2⟩;have HB2:=hide (HB1.out.trans (hb2.mono HB1.out.size));clear hb2))
   · go_ret
     exact⟨false,rfl,HB1.out,fun h=>by cases h⟩
   · go_ret
     exact⟨false,rfl,HB2.out,fun h=>by cases h⟩
 · rw [hv] at HV
   by_cases hmost:(l.length:Int)≤most
   · have hmd : (decide (most<(l.length:Int)))=false:=by simpa using hmost
     have HH:=hide (And.intro hv hmost)
     clear hv hmost
     go_enter Tryz.func12,Tryz.ntmps12
     go_wp2_with (first
      | (go_at_call 4;refine HF.out.mono ?_;rintro e w1 ⟨⟨b,rfl⟩,hb1⟩;have hm1:=HM0.out.below hb1 (by simp);obtain⟨a0,a1,a2,a3,a4,a5,a6,a7,a8,a9,a10⟩:=MB.cells hm1;have lt1:=hm1.lt;have HB1:=hide (HB.out.trans (hb1.mono (by simp)));clear hm1 hb1;cases b)
      | (go_at_call 6;refine(HV.out _ HB1.out).mono ?_;rintro e w2 ⟨rfl,hb2⟩;have HB2:=hide (HB1.out.trans (hb2.mono HB1.out.size));clear hb2))
     · go_ret
       exact⟨false,rfl,HB1.out,fun h=>by cases h⟩
     · clear a0 a1 a2 a3 a4 a5 a6 a7 a8 a9 a10 hmd lt1
       go_loopw [7] (fun i wr=>∃ k:Nat,k≤l.length∧i=.int .i64 k∧Below w.heap.size w wr∧Hid (∀ j (hj:j<l.length),j<k→l[j].old.length≤10)) (fun i _=>l.length - (intOf i).toNat)
       case atStart=>exact⟨0,Nat.zero_le _,rfl,HB2.out,fun j hj h0=>absurd h0 (by omega)⟩
       case round =>
        obtain⟨k,hk,rfl,hbr,hs⟩:=hrel
        have HBR:=hide hbr
        by_cases hlt:k<l.length
        · obtain ⟨x,hx⟩:∃ x,l[k]=x:=⟨_,rfl⟩
          obtain⟨b,off,j,hA,hb,hj1,hj2,_,hc⟩:=(HE.out.grow hbr).ev hlt hx
          have x12:=hc 12 _ rfl
          have HX:=hide hx
          subst hA
          clear hc hx hbr
          by_cases h10:x.old.length≤10
          · go_wp2_with fail
            all_goals
             go_roundw
             case rel=>exact⟨k+1,by omega,by go_num,HBR.out,fun q hq h1=>by
              rcases Nat.lt_or_ge q k with h2|h2
              · exact hs.out q hq h2
              · obtain rfl:q=k:=by omega
                rw[HX.out];exact h10⟩
             case measure=>simp[intOf];omega
          · go_wp2_with fail
            go_ret
            exact⟨false,rfl,HBR.out,fun h=>by cases h⟩
        · obtain rfl:k=l.length:=by omega
          go_wp2_with fail
          go_ret
          exact⟨true,rfl,HBR.out,fun _=>⟨HH.out.1,HH.out.2,fun x hx=>by
           obtain⟨i,hi,rfl⟩:=List.getElem_of_mem hx
           exact hs.out i hi hi⟩⟩
   · have hmd:(decide (most<(l.length:Int)))=true:=by simpa using hmost
     clear hv hmost HE
     go_enter Tryz.func12,Tryz.ntmps12
     go_wp2_with (first
      | (go_at_call 4;refine HF.out.mono ?_;rintro e w1 ⟨⟨b,rfl⟩,hb1⟩;have hm1:=HM0.out.below hb1 (by simp);obtain⟨a0,a1,a2,a3,a4,a5,a6,a7,a8,a9,a10⟩:=MB.cells hm1;have lt1:=hm1.lt;have HB1:=hide (HB.out.trans (hb1.mono (by simp)));clear hm1 hb1;cases b)
      | (go_at_call 6;refine(HV.out _ HB1.out).mono ?_;rintro e w2 ⟨rfl,hb2⟩;have HB2:=hide (HB1.out.trans (hb2.mono HB1.out.size));clear hb2))
     · go_ret
       exact⟨false,rfl,HB1.out,fun h=>by cases h⟩
     · go_ret
       exact⟨false,rfl,HB2.out,fun h=>by cases h⟩
structure J2 (p:AA) (A0:Option Addr) (c0:Nat) (w wr:World) (k:Nat) (A:Option Addr) (c:Nat) (q:AA):Prop where
 b:Below w.heap.size w wr
 bp:AB wr w.heap.size 56 #[.slice A0 p.length c0]
 br:AB wr (w.heap.size+1) 56 #[.slice none 0 0]
 bx:AB wr (w.heap.size+1+1) 56 #[.slice A k c]
 op:OP (w.heap.size+3) wr (.slice A k c) (q.take k)
def Uh(p:AA)(A0:Option Addr)(c0:Nat)(w:World)(q:AA)(i:Value)(wr:World):Prop:=∃ (k:Nat) (A:Option Addr) (c:Nat),k≤p.length∧i=.int .i64 k∧J2 p A0 c0 w wr k A c q
theorem J2.next {p q:AA} {A0 A A4:Option Addr} {c0 c c4 k:Nat} {w wr w1 w3:World} (s:J2 p A0 c0 w wr k A c q) (h1:Below wr.heap.size wr w1) (hg:w1.grownBy w3 (Value.slice A k c).ownBlock) (h3:OP (w.heap.size+3) w3 (.slice A4 (k+1) c4) (q.take (k+1))) :
    J2 p A0 c0 w (w3.setCell ⟨w.heap.size+1+1,0,none⟩ (.slice A4 (k+1) c4)) (k+1) A4 c4 q:=by
 have hne:∀ g,g<w.heap.size+3→some g≠(Value.slice A k c).ownBlock:=fun g hgl e=>by have:=(s.op.lt _ e.symm).1;omega
 have b3:∀ {g:Nat} {T:TypeId} {cs:Array Value},AB wr g T cs→g<w.heap.size+3→AB w3 g T cs:=fun hb hgl=>(hb.below h1 hb.lt).grown hg (hne _ hgl)
 have hx3:=b3 s.bx (by omega)
 refine⟨?_,(b3 s.bp (by omega)).far (by simp <;> omega) _,(b3 s.br (by omega)).far (by simp <;> omega) _,?_,?_⟩
 · refine(Below.grown (s.b.trans (h1.mono s.b.size)) hg (Nat.le_trans s.b.size h1.size) fun g e=>?_).setCell (by simp <;> omega) _
   have:=(s.op.lt _ e).1
   omega
 · simpa using hx3.set_ 0 (.slice A4 (k+1) c4)
 · exact h3.keep (KT.set_ hx3 (by decide) 0 _) (KT.set_ hx3 (by decide) 0 _)
theorem Sa {p:AA} {item:Int} {l:List AO} {k:Nat} (hk:k<p.length) (h:item=(k:Int)+1):(BL p item l).take k ++ [l]=(BL p item l).take (k+1):=by
 subst h
 rw[Le hk,List.take_succ_eq_append_getElem (by simpa using hk)]
 simp
theorem Om {p:AA} {item:Int} {l:List AO} {k:Nat} (hk:k<p.length) (h:item≠(k:Int)+1):(BL p item l).take k ++ [p[k]]=(BL p item l).take (k+1):=by
 rw[List.take_succ_eq_append_getElem (by rw[Cc];exact hk)]
 congr 2
 unfold BL
 split
 · rename_i he
   have:1≤item∧item≤(p.length:Int):=by simpa[AP] using he
   rw[List.getElem_set_ne (by omega)]
 · rfl
theorem EY (A : Option Addr) (c:Nat) (p:AA) (item:Int) (A2:Option Addr) (c2:Nat) (l:List AO) (w:World) (h:PT w (.slice A p.length c) p) (hs:DW p) (hl:UT w (.slice A2 l.length c2) l) (h1 : -9223372036854775808<item) (h2:item≤9223372036854775807) :
    Calls Tryz.prog 195 #[.agg #[.slice A p.length c],.int .i64 item,.slice A2 l.length c2] w (BG w (BL p item l)):=by
 have H0:J2 p A c w (((w.alloc (.cells #[.slice A p.length c] 56)).alloc (.cells #[.slice none 0 0] 56)).alloc (.cells #[.slice none 0 0] 56)) 0 none 0 (BL p item l):=by
  refine⟨(((Below.refl w.heap.size w).alloc (Nat.le_refl _) _).alloc (by simp) _).alloc (by simp <;> omega) _,((AB.new w _ _).alloc _).alloc _,?_,?_,?_⟩
  · have:=(AB.new (w.alloc (.cells #[.slice A p.length c] 56)) 56 #[.slice none 0 0]).alloc (.cells #[.slice none 0 0] 56)
    simpa using this
  · have:=AB.new ((w.alloc (.cells #[.slice A p.length c] 56)).alloc (.cells #[.slice none 0 0] 56)) 56 #[.slice none 0 0]
    simpa using this
  · exact OP.nil_ _ _
 have HS:=hide hs
 have HI:=hide (And.intro h1 h2)
 have hpl:=hs.1
 have H0:=hide H0
 have HP:=hide h
 have HL:=hide hl
 have hw2:wrap64 (item - 1)=item - 1:=IntWalk.wrap64_in _ (by omega)
 clear hs h hl h1 h2
 go_enter Tryz.func195,Tryz.ntmps195
 go_wp2_with fail
 go_loopw [8] (fun i wr=>Uh p A c w (BL p item l) i wr) (fun i _=>p.length - (intOf i).toNat)
 case atStart=>exact⟨0,none,0,Nat.zero_le _,rfl,H0.out⟩
 case round =>
  clear H0
  obtain⟨k,A',c',hk,rfl,hS⟩:=hrel
  have hS:=hide hS
  have p0:=hS.out.bp.cell 0
  have pl:=hS.out.bp.lt
  have bx0:=hS.out.bx.cell 0
  have bxl:=hS.out.bx.lt
  have bxf:=hS.out.bx.frozen 0
  simp at p0 bx0
  by_cases hlt:k<p.length
  · obtain ⟨q, hq⟩ : ∃ q,q=(BL p item l).take k:=⟨_,rfl⟩
    have hop:=hS.out.op
    rw[← hq] at hop
    have HLq:=hide (show q.length=k by rw[hq];simp[Cc];omega)
    have HOP:=hide hop
    clear hop
    by_cases he:item=(k:Int)+1
    · have HT := hide (Sa (l:=l) hlt he)
      rw[← hq] at HT
      have g1:((k:Int) == item - 1)=true:=by simp;omega
      have HU:=hide (HL.out.keep (KT.below hS.out.b))
      clear he hq
      have hA0:=(Below.refl wr.heap.size wr).alloc (Nat.le_refl _) (.cells #[.slice A2 l.length c2] 57)
      have HA0:=hide hA0
      have HOPa:=hide (HOP.out.below hA0)
      have HUa:=hide (HU.out.keep (KT.below hA0))
      have HRD:=hide (Reads.newRow wr #[.slice A2 l.length c2] 57 1 1 rfl)
      have HBX:=hide (hS.out.bx.below hA0 hS.out.bx.lt)
      clear hA0
      go_wp2_with (at_builtin;refine J3 rfl _ _ rfl (w.heap.size+3) (.slice A' k c') q rfl HOPa.out _ _ 1 (.slice A2 l.length c2) l rfl HRD.out HUa.out (by rw[HLq.out];omega) (by simp;omega) ?_;intro v3 w3 ho3 hg3 _
                   obtain⟨A4,c4,e4,_⟩:=ho3.pt.form
                   rw[List.length_append,HLq.out] at e4
                   subst e4
                   have hbx3:=HBX.out.grown hg3 (fun e=>by have:=(HOPa.out.lt _ e.symm).1;omega)
                   have b30:=hbx3.cell 0
                   have b3f:=hbx3.frozen 0
                   have b3l:=hbx3.lt
                   simp at b30
                   have HG3:=hide hg3
                   have HO3:=hide ho3
                   clear hbx3 hg3 ho3)
      have hN:=hide (hS.out.next HA0.out HG3.out (by rw[← HT.out];exact HO3.out))
      go_roundw
      case rel=>exact⟨k+1,A4,c4,by omega,by go_num,hN.out⟩
      case measure=>simp[intOf];omega
    · have HT:=hide (Om (l:=l) hlt he)
      rw[← hq] at HT
      have g1:((k:Int) == item - 1)=false:=by simp;omega
      obtain⟨b,off,A3,c3,hA,hb,x0,hu⟩:=(HP.out.below hS.out.b).at_ hlt
      have HU:=hide hu
      clear he hq hu
      subst hA
      have hkl:p[k].length≤1000:=HS.out.each _ (List.getElem_mem hlt)
      have HKL:=hide hkl
      have HE:=hide (Ad.empty (B:=wr.heap.size) wr.drew (Nat.le_refl _) (g:=wr.heap.size) rfl)
      have hbe:=(Below.refl wr.heap.size wr).drew.alloc (Nat.le_refl _) (.cells #[] 72)
      have HBE:=hide hbe
      have HR:=hide (HU.out.keep (KT.below hbe)).reads
      clear hkl hbe
      go_wp2_with fail
      go_region_law
       ((first
         | (refine AU rfl _ _ rfl wr.heap.size (.slice (some ⟨wr.heap.size,0,none⟩) 0 0) [] rfl HE.out _ A3 p[k].length c3 p[k] rfl rfl HR.out (by have:=HKL.out;simp;omega) (by simp) ?_;intro v1 w1 ho1 hg1 _
            rw[List.nil_append] at ho1
            obtain⟨A5,c5,rfl,_⟩:=ho1.ut.form
            have hb1:Below wr.heap.size wr w1:=HBE.out.grown hg1 (by simp) (fun g e=>by have:=(HE.out.lt g e).1;omega)
            have hbx1:=hS.out.bx.below hb1 hS.out.bx.lt
            have b10:=hbx1.cell 0
            have b1l:=hbx1.lt
            simp at b10
            have HB1:=hide hb1
            have HBX1:=hide hbx1
            have HU1:=hide (ho1.ut.keep (KT.alloc w1 (.cells #[.slice A5 p[k].length c5] 57)))
            have HOP1:=hide ((HOP.out.below hb1).keep (KT.alloc w1 (.cells #[.slice A5 p[k].length c5] 57)) (KT.alloc w1 (.cells #[.slice A5 p[k].length c5] 57)))
            have HRD:=hide (Reads.newRow w1 #[.slice A5 p[k].length c5] 57 1 1 rfl)
            clear hb1 hbx1 ho1 hg1
            dsimp only)
         | (refine Gn rfl _ _ rfl (w.heap.size+3) (.slice A' k c') q rfl HOP1.out _ _ 1 (.slice A5 p[k].length c5) p[k] rfl HRD.out HU1.out (by rw[HLq.out];omega) (by simp;omega) ?_;intro v3 w3 ho3 hg3 _
            obtain⟨A4,c4,e4,_⟩:=ho3.pt.form
            rw[List.length_append,HLq.out] at e4
            subst e4
            have hbx3:=(HBX1.out.alloc (.cells #[.slice A5 p[k].length c5] 57)).grown hg3 (fun e=>by have:=(HOP1.out.lt _ e.symm).1;omega)
            have b30:=hbx3.cell 0
            have b3f:=hbx3.frozen 0
            have b3l:=hbx3.lt
            simp at b30
            have HG3:=hide hg3
            have HO3:=hide ho3
            clear hbx3 hg3 ho3
            dsimp only)))
      all_goals
       have hN:=hide (hS.out.next (HB1.out.alloc HB1.out.size (.cells #[.slice A5 p[k].length c5] 57)) HG3.out (by rw[← HT.out];exact HO3.out))
       go_wp2_with fail
       go_roundw
       case rel=>exact⟨k+1,A4,c4,by omega,by go_num,hN.out⟩
       case measure=>simp[intOf];omega
  · obtain rfl:k=p.length:=by omega
    have HOP:=hide hS.out.op.pt
    have r0:=hS.out.br.cell 0
    have rf:=hS.out.br.frozen 0
    have rl:=hS.out.br.lt
    simp at r0
    go_wp2_with fail
    refine bodyPost_ret (v:=.agg #[.slice A' p.length c']) (by simp[results,Tryz.results195,go_sem, *]) rfl ?_
    have hop:=HOP.out
    rw[List.take_of_length_le (by rw[Cc];exact Nat.le_refl _)] at hop
    refine⟨A',c',by rw[Cc],by rw[Cc];exact hop.keep (KT.set_ hS.out.br (by decide) 0 _) (KT.set_ hS.out.br (by decide) 0 _),hS.out.b.setCell (by simp) _⟩
theorem UT.readsTake {w:World} {g off c:Nat} {l:List AO} (h:UT w (.slice (some ⟨g,off,none⟩) l.length c) l) (hn:0<l.length) {k:Nat} (hk:k≤l.length):Reads w w.heap.size 2 (some ⟨g,off,none⟩) k (AL (l.take k)):=by
 have hc:=h.cellsAt hn
 obtain⟨g2,off2,e,hg,_⟩:=h.some_ hn
 have e:=Option.some.inj e
 obtain⟨rfl,rfl⟩:g=g2∧off=off2:=by injection e with h1 h2;exact⟨h1,h2⟩
 refine⟨by rw[Bi,List.length_take];omega,fun _=>⟨_,rfl,hg,fun j u hu=>?_⟩⟩
 rw[BA]
 refine hc j u ?_
 rw[← EL,List.getElem?_take] at hu
 split at hu
 · exact hu
 · cases hu
theorem UT.readsDrop {w:World} {g off c:Nat} {l:List AO} (h:UT w (.slice (some ⟨g,off,none⟩) l.length c) l) (hn:0<l.length) (k:Nat):Reads w w.heap.size 2 (some ⟨g,off+k*2,none⟩) (l.length - k) (AL (l.drop k)):=by
 have hc:=h.cellsAt hn
 obtain⟨g2,off2,e,hg,_⟩:=h.some_ hn
 have e:=Option.some.inj e
 obtain⟨rfl,rfl⟩:g=g2∧off=off2:=by injection e with h1 h2;exact⟨h1,h2⟩
 refine⟨by rw[Bi,List.length_drop],fun _=>⟨_,rfl,hg,fun j u hu=>?_⟩⟩
 rw[BA,Nat.add_assoc]
 refine hc _ u ?_
 rw[← FH,List.getElem?_drop] at hu
 exact hu
theorem Fz {w:World} {B:Nat} {A:Option Addr} {n:Nat} {l:List AO} (hl:l=[]) (hn:n=0):Reads w B 2 A n (AL l):=by
 subst hl hn
 exact⟨by simp[AL],fun h=>absurd h (by simp)⟩
theorem Mm {p:AA} {item:Int} (h:AQ p item≠[]):1≤item∧item≤(p.length:Int):=by
 unfold AQ at h
 split at h
 · rename_i he;simpa[AP] using he
 · exact absurd rfl h
structure EM (p:AA) (A:Option Addr) (c:Nat) (w wr:World):Prop where
 b:Below w.heap.size w wr
 bp:AB wr w.heap.size 56 #[.slice A p.length c]
 br:AB wr (w.heap.size+1) 56 #[.slice none 0 0]
theorem EM.start (p:AA) (A:Option Addr) (c:Nat) (w:World):EM p A c w ((w.alloc (.cells #[.slice A p.length c] 56)).alloc (.cells #[.slice none 0 0] 56)) :=
 ⟨((Below.refl w.heap.size w).alloc (Nat.le_refl _) _).alloc (by simp) _,(AB.new w _ _).alloc _,by simpa using AB.new (w.alloc (.cells #[.slice A p.length c] 56)) 56 #[.slice none 0 0]⟩
theorem EM.grow {p:AA} {A:Option Addr} {c:Nat} {w wr w1:World} (s:EM p A c w wr) (hb:Below wr.heap.size wr w1):EM p A c w w1 :=
 ⟨s.b.trans (hb.mono s.b.size),s.bp.below hb s.bp.lt,s.br.below hb s.br.lt⟩
theorem EM.cells {p:AA} {A:Option Addr} {c:Nat} {w wr:World} (s:EM p A c w wr):wr.cell? ⟨w.heap.size,0,none⟩=some (.slice A p.length c)∧wr.cell? ⟨w.heap.size+1,0,none⟩=some (.slice none 0 0)∧wr.frozen? ⟨w.heap.size+1,0,none⟩=false∧w.heap.size+1<wr.heap.size∧w.heap.size<wr.heap.size :=
 ⟨by simpa using s.bp.cell 0,by simpa using s.br.cell 0,s.br.frozen 0,s.br.lt,s.bp.lt⟩
theorem EM.done {p q:AA} {A A2:Option Addr} {c c2:Nat} {w wr:World} (s:EM p A c w wr) (hp:PT wr (.slice A2 q.length c2) q):BG w q (.returned (.agg #[.slice A2 q.length c2])) (wr.setCell ⟨w.heap.size+1,0,none⟩ (.slice A2 q.length c2)) :=
 ⟨A2,c2,rfl,hp.keep (KT.set_ s.br (by decide) 0 _) (KT.set_ s.br (by decide) 0 _),s.b.setCell (by simp) _⟩
theorem Nr (A:Option Addr) (c:Nat) (p:AA) (item mc:Int) (w:World) (h:PT w (.slice A p.length c) p) (hs:DW p) (hf:Ch (AQ p item) mc=none) :
    Calls Tryz.prog 130 #[.agg #[.slice A p.length c],.int .i64 item,.int .i64 mc] w (BG w (Cf p item mc)):=by
 have H0:=hide (EM.start p A c w)
 have HU:=hide (Gr A c p item _ (h.below H0.out.b) (by have:=hs.1;omega))
 have HF:=hide (show Cg (AQ p item) mc = -1 by rw[Dw,hf])
 have hul:=hs.units item
 have hE:Cf p item mc=BL p 0 []:=by rw[Cf,LJ hf,QO,NQ (by simp[AP])]
 have HP:=hide (And.intro h hs)
 clear h hs hf
 rw[hE]
 go_enter Tryz.func130,Tryz.ntmps130
 go_wp2_with (first
  | (go_at_call 134;refine HU.out.mono ?_;rintro e w1 ⟨A2,c2,rfl,hu,hb1⟩
     have HX:=hide (Gg A2 c2 (AQ p item) mc w1 (by omega) hu)
     rw[HF.out] at HX
     have HS1:=hide (H0.out.grow hb1)
     obtain⟨s0,s1,s2,s3,s4⟩:=HS1.out.cells
     have HW:=hide (EY A c p 0 none 0 [] w1 (HP.out.1.below HS1.out.b) HP.out.2 (UT.nil_ _) (by decide) (by decide))
     clear hb1 hu)
  | (go_at_call 135;refine HX.out.mono ?_;rintro e w2 ⟨rfl,rfl⟩)
  | (go_at_call 195;refine HW.out.mono ?_;rintro e w3 ⟨A3,c3,rfl,hp3,hb3⟩
     have HS3:=hide (HS1.out.grow hb3)
     have HP3:=hide hp3
     obtain⟨r0,r1,r2,r3,r4⟩:=HS3.out.cells
     clear hb3 hp3))
 refine bodyPost_ret (v:=.agg #[.slice A3 (BL p 0 []).length c3]) (by simp[results,Tryz.results130,go_sem, *]) rfl ?_
 exact HS3.out.done HP3.out
theorem Mj (A:Option Addr) (c:Nat) (p:AA) (item mc:Int) (i:Nat) (w:World) (h:PT w (.slice A p.length c) p) (hs:DW p) (hf:Ch (AQ p item) mc=some i) :
    Calls Tryz.prog 130 #[.agg #[.slice A p.length c],.int .i64 item,.int .i64 mc] w (BG w (Cf p item mc)):=by
 have H0:=hide (EM.start p A c w)
 have HU:=hide (Gr A c p item _ (h.below H0.out.b) (by have:=hs.1;omega))
 have HF:=hide (show Cg (AQ p item) mc=(i:Int) by rw[Dw,hf])
 have hul:=hs.units item
 have hil:i<(AQ p item).length:=(List.findIdx?_eq_some_iff_getElem.1 hf).1
 have hit:=Mm (p:=p) (item:=item) (by intro e;rw[e] at hil;simp at hil)
 have hpl:=hs.1
 have hr1 : -9223372036854775808<item:=by omega
 have hr2:item≤9223372036854775807:=by omega
 have HR:=hide (And.intro hr1 hr2)
 have HD:=hide (LK hf)
 have HP:=hide (And.intro h hs)
 clear h hs hf hr1 hr2 hit hpl
 unfold Cf
 generalize AQ p item=l at HU HF hul hil HD ⊢
 obtain⟨w0,e0⟩:∃ w0,w0=((w.alloc (.cells #[.slice A p.length c] 56)).alloc (.cells #[.slice none 0 0] 56)):=⟨_,rfl⟩
 go_enter Tryz.func130,Tryz.ntmps130
 go_wp2_with (first
  | (go_at_call 134;refine HU.out.mono ?_;rintro e w1 ⟨A2,c2,rfl,hu,hb1⟩
     have HX:=hide (Gg A2 c2 l mc w1 (by omega) hu)
     rw[HF.out] at HX
     have HS1:=hide (H0.out.grow hb1)
     obtain⟨g,off,eA,hgl,hlc,hcm⟩:=hu.some_ (by omega)
     subst eA
     have HT:=hide hu
     obtain⟨s0,s1,s2,s3,s4⟩:=HS1.out.cells
     clear hb1 hu)
  | (go_at_call 135;refine HX.out.mono ?_;rintro e w2 ⟨rfl,rfl⟩))
 have HE:=hide (Ad.empty (B:=w1.heap.size) w1.drew (Nat.le_refl _) (g:=w1.heap.size) rfl)
 have hbe:=(Below.refl w1.heap.size w1).drew.alloc (Nat.le_refl _) (.cells #[] 72)
 have HBE:=hide hbe
 have HR1:=hide ((HT.out.keep (KT.below hbe)).readsTake (by omega) (k:=i) (by omega))
 have HLT:=hide (show i=(l.take i).length by simp;omega)
 have HLT2:=hide (show l.length - (i+1)=(l.drop (i+1)).length by simp)
 have hl0:0<l.length:=by omega
 clear hbe e0
 have hw:IntKind.i64.wrap ((i:Int)+1)=(i:Int)+1:=IntWalk.i64_in _ (by omega)
 have hil6:(i:Int)≤(i:Int)+1:=by omega
 have hil8:(i:Int)+1≤(l.length:Int):=by omega
 have hil9:0≤(i:Int)+1:=by omega
 by_cases hcc:c2=i+1
 · have hil7:(l.length:Int)≤(i:Int)+1:=by omega
   have HZ:=hide (show l.length - (i+1)=0 by omega)
   go_region_law
    ((first
      | (refine AU rfl _ _ rfl w1.heap.size (.slice (some ⟨w1.heap.size,0,none⟩) 0 0) [] rfl HE.out _ (some ⟨g,off,none⟩) i _ (l.take i) rfl HLT.out HR1.out (by simp;omega) (by simp) ?_;intro v3 w3 ho3 hg3 _
         rw[List.nil_append] at ho3
         obtain⟨A3,c3,e3,_⟩:=ho3.ut.form
         rw[← HLT.out] at e3
         subst e3
         have hb3:Below w1.heap.size w1 w3:=HBE.out.grown hg3 (by simp) (fun g e=>(HE.out.lt g e).1)
         have HB3:=hide hb3
         have HO3:=hide ho3
         have HS3:=hide (HS1.out.grow hb3)
         have HRD:=hide ((HT.out.keep (KT.below hb3)).readsDrop hl0 (i+1))
         obtain⟨a0,a1,a2,a3,a4⟩:=HS3.out.cells
         clear hb3 ho3 hg3
         dsimp only)
      | (refine AU rfl _ _ rfl w1.heap.size (.slice A3 i c3) (l.take i) rfl HO3.out w3.heap.size _ _ _ (l.drop (i+1)) rfl HLT2.out (Fz (List.eq_nil_of_length_eq_zero (by rw[← HLT2.out];exact HZ.out)) HZ.out) (by simp;omega) HB3.out.size ?_;intro v4 w4 ho4 hg4 _
         rw[← HD.out] at ho4
         obtain⟨A4,c4,rfl,_⟩:=ho4.ut.form
         have hb4:Below w1.heap.size w1 w4:=HB3.out.grown hg4 HB3.out.size (fun g e=>(HO3.out.lt g e).1)
         have HS4:=hide (HS1.out.grow hb4)
         obtain⟨b0,b1,b2,b3,b4⟩:=HS4.out.cells
         have HW:=hide (EY A c p item A4 c4 (DX l mc) w4 (HP.out.1.below HS4.out.b) HP.out.2 ho4.ut HR.out.1 HR.out.2)
         clear hb4 ho4 hg4
         dsimp only)
      | (go_simp;go_at_call 195;refine HW.out.mono ?_;rintro e w5 ⟨A5,c5,rfl,hp5,hb5⟩
         have HS5:=hide (HS4.out.grow hb5)
         have HP5:=hide hp5
         obtain⟨r0,r1,r2,r3,r4⟩:=HS5.out.cells
         clear hb5 hp5
         dsimp only)))
   all_goals
    go_wp2_with fail
    refine bodyPost_ret (v:=.agg #[.slice A5 (BL p item (DX l mc)).length c5]) (by simp[results,Tryz.results130,go_sem, *]) rfl ?_
    exact HS5.out.done HP5.out
 · have hic:(i:Int)+1≤(c2:Int):=by omega
   have hic2:(i:Int)≤(c2:Int):=by omega
   go_region_law
    ((first
      | (refine AU rfl _ _ rfl w1.heap.size (.slice (some ⟨w1.heap.size,0,none⟩) 0 0) [] rfl HE.out _ (some ⟨g,off,none⟩) i _ (l.take i) rfl HLT.out HR1.out (by simp;omega) (by simp) ?_;intro v3 w3 ho3 hg3 _
         rw[List.nil_append] at ho3
         obtain⟨A3,c3,e3,_⟩:=ho3.ut.form
         rw[← HLT.out] at e3
         subst e3
         have hb3:Below w1.heap.size w1 w3:=HBE.out.grown hg3 (by simp) (fun g e=>(HE.out.lt g e).1)
         have HB3:=hide hb3
         have HO3:=hide ho3
         have HS3:=hide (HS1.out.grow hb3)
         have HRD:=hide ((HT.out.keep (KT.below hb3)).readsDrop hl0 (i+1))
         obtain⟨a0,a1,a2,a3,a4⟩:=HS3.out.cells
         clear hb3 ho3 hg3
         dsimp only)
      | (refine AU rfl _ _ rfl w1.heap.size (.slice A3 i c3) (l.take i) rfl HO3.out w3.heap.size _ _ _ (l.drop (i+1)) rfl HLT2.out HRD.out (by simp;omega) HB3.out.size ?_;intro v4 w4 ho4 hg4 _
         rw[← HD.out] at ho4
         obtain⟨A4,c4,rfl,_⟩:=ho4.ut.form
         have hb4:Below w1.heap.size w1 w4:=HB3.out.grown hg4 HB3.out.size (fun g e=>(HO3.out.lt g e).1)
         have HS4:=hide (HS1.out.grow hb4)
         obtain⟨b0,b1,b2,b3,b4⟩:=HS4.out.cells
         have HW:=hide (EY A c p item A4 c4 (DX l mc) w4 (HP.out.1.below HS4.out.b) HP.out.2 ho4.ut HR.out.1 HR.out.2)
         clear hb4 ho4 hg4
         dsimp only)
      | (go_simp;go_at_call 195;refine HW.out.mono ?_;rintro e w5 ⟨A5,c5,rfl,hp5,hb5⟩
         have HS5:=hide (HS4.out.grow hb5)
         have HP5:=hide hp5
         obtain⟨r0,r1,r2,r3,r4⟩:=HS5.out.cells
         clear hb5 hp5
         dsimp only)))
   all_goals
    go_wp2_with fail
    refine bodyPost_ret (v:=.agg #[.slice A5 (BL p item (DX l mc)).length c5]) (by simp[results,Tryz.results130,go_sem, *]) rfl ?_
    exact HS5.out.done HP5.out
end Go.Proofs.YtfemlajeomohhaaGreatDoor
