/- A part of the claim: see its last text. -/
import Derived.Test.YtfemlajeomohhaaGreatDoorUK18
import Derived.Test.YtfemlajeomohhaaGreatDoorUK19

set_option maxRecDepth 100000
set_option maxHeartbeats 16000000
namespace Go.Proofs.YtfemlajeomohhaaGreatDoor
open Go Go.RowKit Go.Proofs
theorem Mr (h:MH) (m:AC) (k:Nat) (hk:k<4) (x:AR) (hkd:x.kind=(k:Int)) (A:Option Addr) (c:Nat) (Ap:Option Addr) (cp:Nat) (p:AA) (f:Int×Int) (w:World) (C:Cond w h m x A Ap cp p) :
    Calls Tryz.prog 69 #[.agg #[.slice h.s m.sT.length h.sc,.slice h.f m.fT.length h.fc,.slice h.r m.rT.length h.rc,.slice h.m m.mT.length h.mc,.slice h.l m.lT.length h.lc,.slice h.i m.iT.length h.ic,.int .i64 m.dT,.int .i64 m.oT,.int .i64 m.vT,.int .i64 m.aT,.slice h.u m.uT.length h.uc],.agg #[.int .i64 x.kind,.int .i64 x.item,.int .i64 x.other,.int .i64 x.n,.int .i64 x.by_,.bool x.always,.slice A x.machines.length c],.agg #[.slice Ap p.length cp],.agg #[.int .i64 f.1,.int .i64 f.2]] w (Br w (.bool (Bf m x p f))):=by
 have HS:=hide (S4.start w #[.slice h.s m.sT.length h.sc,.slice h.f m.fT.length h.fc,.slice h.r m.rT.length h.rc,.slice h.m m.mT.length h.mc,.slice h.l m.lT.length h.lc,.slice h.i m.iT.length h.ic,.int .i64 m.dT,.int .i64 m.oT,.int .i64 m.vT,.int .i64 m.aT,.slice h.u m.uT.length h.uc] #[.int .i64 x.kind,.int .i64 x.item,.int .i64 x.other,.int .i64 x.n,.int .i64 x.by_,.bool x.always,.slice A x.machines.length c] #[.slice Ap p.length cp] #[.int .i64 f.1,.int .i64 f.2])
 have HW:=hide (RN h m k hk x hkd A c Ap cp p f _ (C.grow HS.out.b))
 clear C hkd
 go_enter Tryz.func69,Tryz.ntmps69
 go_wp2_with (go_at_call 124;refine HW.out.mono ?_;rintro e w1 ⟨rfl,hb⟩;have HB:=hide hb;clear hb)
 go_ret
 exact⟨rfl,HS.out.b.trans (HB.out.mono HS.out.b.size)⟩
structure SR (w:World) (M X:Array Value) (W:World):Prop where
 m:AB W w.heap.size 29 M
 x:AB W (w.heap.size+1) 51 X
 b:Below w.heap.size w W
theorem SR.start (w:World) (M X:Array Value):SR w M X ((w.alloc (.cells M 29)).alloc (.cells X 51)) :=
 ⟨(AB.new w _ M).alloc _,by simpa using AB.new (w.alloc (.cells M 29)) 51 X,((Below.refl _ _).alloc (Nat.le_refl _) _).alloc (by simp) _⟩
theorem SR.drew{w:World}{M X:Array Value}{W:World}(s:SR w M X W):SR w M X W.drew:=⟨s.m,s.x,s.b.drew⟩
theorem SR.grow{w:World}{M X:Array Value}{W W2:World}(s:SR w M X W)(hb:Below W.heap.size W W2):SR w M X W2:=⟨s.m.below hb s.m.lt,s.x.below hb s.x.lt,s.b.trans (hb.mono s.b.size)⟩
def FK (w:World) (M X:Array Value) (f1:Nat→Value) (f2:Value) (v:Value) (W:World):Prop :=
 ∃ Fb bx,v=.pointer (some ⟨Fb,0,none⟩)∧SR w M X W∧AB W Fb 165 #[f1 bx,f2]
theorem FK.soon {w:World} {M X:Array Value} {f1:Nat→Value} {f2:Value} {W w1:World} (s:SR w M X W) (hb:Below W.heap.size W w1) (bx:Nat) :
    FK w M X f1 f2 (.pointer (some ⟨w1.heap.size,0,none⟩)) (w1.alloc (.cells #[f1 bx,f2] 165)) :=
 ⟨w1.heap.size,bx,rfl,SR.grow (s.grow hb) ((Below.refl _ _).alloc (Nat.le_refl _) _),AB.new _ _ _⟩
theorem FK.late {w:World} {M X:Array Value} {f1:Nat→Value} {f2:Value} {W W0 w1:World} (s:SR w M X W) (h0:Below W.heap.size W W0) {Fb:Nat} (hFb:w.heap.size+1+1≤Fb) (hF:AB W0 Fb 165 #[.nilFunc,.nilFunc]) (hb:Below W0.heap.size W0 w1) (bx:Nat) :
    FK w M X f1 f2 (.pointer (some ⟨Fb,0,none⟩)) ((w1.setCell ⟨Fb,0,none⟩ (f1 bx)).setCell ⟨Fb,1,none⟩ f2):=by
 have s1:=(s.grow h0).grow hb
 have hF1:=hF.below hb hF.lt
 refine⟨Fb,bx,rfl,⟨(s1.m.far (by simp;omega) _).far (by simp;omega) _,(s1.x.far (by simp;omega) _).far (by simp;omega) _,(s1.b.setCell (by simp;omega) _).setCell (by simp;omega) _⟩,?_⟩
 simpa using(hF1.set_ 0 (f1 bx)).set_ 1 f2
theorem SR.kind (w:World) (M X:Array Value):AB (((w.alloc (.cells M 29)).alloc (.cells X 51)).alloc (.cells #[.nilFunc,.nilFunc] 165)) (w.heap.size+1+1) 165 #[.nilFunc,.nilFunc]:=by
 have:=AB.new ((w.alloc (.cells M 29)).alloc (.cells X 51)) 165 #[.nilFunc,.nilFunc]
 rwa [show((w.alloc (.cells M 29)).alloc (.cells X 51)).heap.size=w.heap.size+1+1 by simp] at this
structure Ht (m:AC):Prop where
 cm:m.mT.length≤100
 cr:m.rT.length≤100
 ce:m.fT.length≤100
 cs:m.sT.length≤100
theorem Ns {m:AC} {k:Nat} {x:AR} (hk:k<4) (hkd:x.kind=(k:Int)):Ca m x=if Hy k x=true then EW m else [(0,0)]:=by
 have h4:k=0∨k=1∨k=2∨k=3:=by omega
 unfold Ca
 rcases h4 with rfl|rfl|rfl|rfl
 · have hkd:x.kind=0:=hkd
   simp[hkd,Hy]
 · have hkd:x.kind=1:=hkd
   cases ha:x.always <;> simp[hkd,Hy,ha]
 · have hkd:x.kind=2:=hkd
   simp[hkd,Hy]
 · have hkd:x.kind=3:=hkd
   simp[hkd,Hy]
theorem Kr (h:MH) (m:AC) (F:Ht m) (k:Nat) (hk:k<4) (x:AR) (hkd:x.kind=(k:Int)) (A:Option Addr) (c:Nat) (w:World) (L:List (Int×Int)) (hT:Hy k x=true→L=EW m) (hFl:Hy k x=false→L=[(0,0)]) :
    Calls Tryz.prog 67 #[.agg #[.slice h.s m.sT.length h.sc,.slice h.f m.fT.length h.fc,.slice h.r m.rT.length h.rc,.slice h.m m.mT.length h.mc,.slice h.l m.lT.length h.lc,.slice h.i m.iT.length h.ic,.int .i64 m.dT,.int .i64 m.oT,.int .i64 m.vT,.int .i64 m.aT,.slice h.u m.uT.length h.uc],.agg #[.int .i64 x.kind,.int .i64 x.item,.int .i64 x.other,.int .i64 x.n,.int .i64 x.by_,.bool x.always,.slice A x.machines.length c]] w (Ej w L):=by
 have HAL:=hide (fun W=>Sm k hk x A c W)
 have HAF:=hide (fun W=>RQ h m F.cm F.cr F.ce F.cs W)
 have H0:=hide (SR.start w #[.slice h.s m.sT.length h.sc,.slice h.f m.fT.length h.fc,.slice h.r m.rT.length h.rc,.slice h.m m.mT.length h.mc,.slice h.l m.lT.length h.lc,.slice h.i m.iT.length h.ic,.int .i64 m.dT,.int .i64 m.oT,.int .i64 m.vT,.int .i64 m.aT,.slice h.u m.uT.length h.uc] #[.int .i64 x.kind,.int .i64 x.item,.int .i64 x.other,.int .i64 x.n,.int .i64 x.by_,.bool x.always,.slice A x.machines.length c])
 obtain⟨bA,hbA⟩:∃ b,b=Hy k x:=⟨_,rfl⟩
 rw[← hbA] at HAL hT hFl
 have HT:=hide hT
 have HFL:=hide hFl
 simp only[hkd] at HAL H0 ⊢
 clear F hkd hbA hT hFl
 go_enter Tryz.func67,Tryz.ntmps67
 go_wp2_with fail
 go_cut [5,6] (fun v ok wx=>FK w #[.slice h.s m.sT.length h.sc,.slice h.f m.fT.length h.fc,.slice h.r m.rT.length h.rc,.slice h.m m.mT.length h.mc,.slice h.l m.lT.length h.lc,.slice h.i m.iT.length h.ic,.int .i64 m.dT,.int .i64 m.oT,.int .i64 m.vT,.int .i64 m.aT,.slice h.u m.uT.length h.uc] #[.int .i64 (k:Int),.int .i64 x.item,.int .i64 x.other,.int .i64 x.n,.int .i64 x.by_,.bool x.always,.slice A x.machines.length c] (fun bx=>.func (.func (hFn k)) #[] (Iq bx k)) (.func (.func (JR k)) #[] #[]) v wx∧ok=.bool true)
 case first =>
  go_region_held3 (fun W=>W.cell? ⟨w.heap.size+1,0,none⟩=some (.int .i64 (k:Int))) (first|(go_keep;done)|(with_reducible exact hc0)|exact(World.cell?_of_block (Below.heap_setCell _ _ _ _ (by simp <;> omega))).trans ((World.cell?_of_block (Below.heap_setCell _ _ _ _ (by simp <;> omega))).trans hc0)|exact(World.cell?_alloc_lt _ _ _ (by simp <;> omega)).trans hc0|exact H0.out.x.cell 0|exact(SR.grow H0.out ((Below.refl _ _).alloc (Nat.le_refl _) _)).drew.x.cell 0|exact(SR.grow H0.out.drew ((Below.refl _ _).alloc (Nat.le_refl _) _)).x.cell 0) ((go_at_call 122;refine(I1 _).mono ?_;rintro e w1 ⟨rfl,hF,hBx,hb⟩;have hlk:=Gh hF hk;have hlk2:=(fun o=>Gh (KG hF o) hk);have hc0:=(hb.cell (p:=⟨w.heap.size+1,0,none⟩) (by simp <;> omega)).trans (by first|exact H0.out.x.cell 0|exact(SR.grow H0.out ((Below.refl _ _).alloc (Nat.le_refl _) _)).drew.x.cell 0|exact(SR.grow H0.out.drew ((Below.refl _ _).alloc (Nat.le_refl _) _)).x.cell 0);(try simp at hc0);(try simp at hlk);(try simp at hlk2);clear hF hBx;obtain⟨hcA,hfA⟩:=ET hb))
  all_goals
   go_wp2_with fail
   go_meet
   refine⟨?_,rfl⟩
   clear hcA hfA
   first
    | exact FK.soon H0.out.drew hb _
    | exact FK.soon H0.out hb _
    | exact FK.late H0.out (((Below.refl _ _).alloc (Nat.le_refl _) _).drew) (Nat.le_refl _) (SR.kind w _ _).drew hb _
    | exact FK.late H0.out (((Below.refl _ _).alloc (Nat.le_refl _) _)) (Nat.le_refl _) (SR.kind w _ _) hb _
    | exact FK.late H0.out.drew (((Below.refl _ _).alloc (Nat.le_refl _) _)) (Nat.le_refl _) (SR.kind w _ _) hb _
 case rest =>
  obtain⟨⟨Fb,bx,rfl,hS,hF⟩,rfl⟩:=hcut
  have f1:=hF.cell 1
  have fl:=hF.lt
  simp at f1
  obtain⟨a0,a1,a2,a3,a4,a5,a6,a7,a8,a9,a10⟩:=MB.cells hS.m
  have b0:=hS.x.cell 0
  have b1:=hS.x.cell 1
  have b2:=hS.x.cell 2
  have b3:=hS.x.cell 3
  have b4:=hS.x.cell 4
  have b5:=hS.x.cell 5
  have b6:=hS.x.cell 6
  simp at b0 b1 b2 b3 b4 b5 b6
  have ml:=hS.m.lt
  have xl:=hS.x.lt
  have HSS:=hide hS
  have hea:=TH k hk
  clear hS hF
  cases bA
  · go_wp2_with ((with_reducible refine Calls.mono (HAL.out _) ?_);rintro e w3 ⟨rfl,hb3⟩;have HB3:=hide hb3;clear hb3)
    go_ret
    rw[HFL.out trivial]
    have hb3:=HSS.out.b.trans (HB3.out.mono HSS.out.b.size)
    have hl:=World.ownsRow_lit (e:=109) (size:=2) w3 #[.int .i64 0,.int .i64 0] 1 hb3.size (by decide) (by simp)
    exact⟨_,rfl,hl,hb3.alloc hb3.size _⟩
  · go_wp2_with (first
      | ((with_reducible refine Calls.mono (HAL.out _) ?_);rintro e w3 ⟨rfl,hb3⟩;have HB3:=hide hb3;have hS3:=HSS.out.grow hb3;obtain⟨q0,q1,q2,q3,q4,q5,q6,q7,q8,q9,q10⟩:=MB.cells hS3.m;have ql:=hS3.m.lt;have HS3:=hide hS3;clear hb3 hS3)
      | (go_at_call 123;refine(HAF.out _).mono ?_;rintro e w4 ⟨v,rfl,ho,hb4⟩;have HO:=hide ho;have HB4:=hide hb4;clear ho hb4))
    go_ret
    rw[HT.out trivial]
    exact⟨v,rfl,Fw HO.out HS3.out.b.size,HS3.out.b.trans (HB4.out.mono HS3.out.b.size)⟩
theorem KD (h:MH) (m:AC) (F:Ht m) (k:Nat) (hk:k<4) (x:AR) (hkd:x.kind=(k:Int)) (A:Option Addr) (c:Nat) (w:World) :
    Calls Tryz.prog 67 #[.agg #[.slice h.s m.sT.length h.sc,.slice h.f m.fT.length h.fc,.slice h.r m.rT.length h.rc,.slice h.m m.mT.length h.mc,.slice h.l m.lT.length h.lc,.slice h.i m.iT.length h.ic,.int .i64 m.dT,.int .i64 m.oT,.int .i64 m.vT,.int .i64 m.aT,.slice h.u m.uT.length h.uc],.agg #[.int .i64 x.kind,.int .i64 x.item,.int .i64 x.other,.int .i64 x.n,.int .i64 x.by_,.bool x.always,.slice A x.machines.length c]] w (Ej w (Ca m x)):=by
 have hv:=Ns (m:=m) hk hkd
 exact Kr h m F k hk x hkd A c w _ (fun e=>by rw[hv,if_pos e]) (fun e=>by rw[hv,if_neg (by rw[e];simp)])
theorem CP.form {B:Nat} {w:World} {v:Value} {l:List (Int×Int)} (h:CP B w v l):∃ A c,v=.slice A l.length c∧FR w w.heap.size A l∧l.length≤9223372036854775807:=by
 obtain ⟨A,c,e,hl⟩:∃ A c,v=.slice A l.length c∧l.length≤9223372036854775807:=by
  rcases h.2 with⟨rfl,h0⟩|⟨g,cap,cur,rfl,_,_,h1,h2,_⟩
  · exact⟨none,0,by rw[h0],by omega⟩
  · have hx:maxLen=9223372036854775807:=by decide
    exact⟨_,_,rfl,by omega⟩
 subst e
 exact⟨A,c,rfl,Reads.of_own h,hl⟩
def MJ (g:Nat) (lb:Array Value) (l:List (Int×Int)) (p:(Int×Int)→Bool) (w:World):Prop :=
 ∀ (i:Nat) (_:i<l.length) (W:World),Below w.heap.size w W→Calls Tryz.prog g (#[.agg #[.int .i64 l[i].1,.int .i64 l[i].2]]++lb) W fun e w'=>e=.returned (.bool (p l[i]))∧Below W.heap.size W w'
theorem JO (g:Nat) (lb:Array Value) (eg:∀ args w,(callFunc g args).run Tryz.prog w=.ok (.enter g args) w) (p:(Int×Int)→Bool) (A:Option Addr) (c:Nat) (l:List (Int×Int)) (w:World)
    (hl:l.length≤9223372036854775807) (h:FR w w.heap.size A l) (hp:MJ g lb l p w) :
    Calls Tryz.prog 121 #[.slice A l.length c,.func (.func g) #[] lb] w fun e w'=>e=.returned (.int .i64 (Ae p l))∧Below w.heap.size w w':=by
 have HP:=hide hp;clear hp
 go_enter Tryz.func121,Tryz.ntmps121
 go_wp2_with fail
 go_loopw [8] (fun i wr=>∃ k:Nat,k≤l.length∧i=.int .i64 k∧Below w.heap.size w wr∧Hid (∀ j (hj:j<l.length),j<k→p l[j]=false)) (fun i _=>l.length - (intOf i).toNat)
 case atStart=>exact⟨0,Nat.zero_le _,rfl,Below.refl _ _,fun j hj h0=>absurd h0 (by omega)⟩
 case round =>
  obtain⟨k,hk,rfl,hbr,hs⟩:=hrel
  by_cases hlt:k<l.length
  · obtain ⟨b,off,hA,hb,x0,x1⟩:=FR.at_ ((h.below hbr).more hbr.size) hlt
    subst hA
    have hC:=HP.out k hlt wr hbr
    cases hpk:p l[k]
    · rw [hpk] at hC
      have HC:=hide hC
      clear hC
      go_wp2_with (refine(HC.out).mono ?_;rintro e w1 ⟨rfl,hb1⟩)
      go_roundw
      case rel=>exact⟨k+1,by omega,by go_num,hbr.trans (hb1.mono hbr.size),fun j hj h1=>by
       rcases Nat.lt_or_ge j k with h2|h2
       · exact hs j hj h2
       · obtain rfl:j=k:=by omega
         exact hpk⟩
      case measure=>simp[intOf];omega
    · rw[hpk] at hC
      have HC:=hide hC
      have HF:=hide (CF hlt hpk hs)
      clear hC
      go_wp2_with (refine(HC.out).mono ?_;rintro e w1 ⟨rfl,hb1⟩)
      go_ret
      exact⟨AJ (by rw[HF.out];rfl),hbr.trans (hb1.mono hbr.size)⟩
  · have HF:=hide (Ba fun j hj=>hs j hj (by omega))
    go_wp2_with fail
    go_ret
    exact⟨AJ (by rw[HF.out];rfl),hbr⟩
theorem H5 (g:Nat) (lb:Array Value) (eg:∀ args w,(callFunc g args).run Tryz.prog w=.ok (.enter g args) w) (p:(Int×Int)→Bool) (A:Option Addr) (c:Nat) (l:List (Int×Int)) (w:World)
    (hl:l.length≤9223372036854775807) (h:FR w w.heap.size A l) (hp:MJ g lb l p w) :
    Calls Tryz.prog 66 #[.slice A l.length c,.func (.func g) #[] lb] w fun e w'=>e=.returned (.bool (l.any p))∧Below w.heap.size w w':=by
 have HC:=hide (JO g lb eg p A c l w hl h hp);clear hp h
 have HF:=hide (Ev p l)
 go_enter Tryz.func66,Tryz.ntmps66
 go_wp2_with (go_at_call 121;refine HC.out.mono ?_;rintro e w1 ⟨rfl,hb1⟩)
 go_ret
 exact⟨AJ (by rw[← HF.out];rfl),hb1⟩
structure S3 (w:World) (M X P:Array Value) (W:World):Prop where
 m:AB W w.heap.size 29 M
 x:AB W (w.heap.size+1) 51 X
 p:AB W (w.heap.size+1+1) 56 P
 b:Below w.heap.size w W
theorem S3.start (w:World) (M X P:Array Value):S3 w M X P (((w.alloc (.cells M 29)).alloc (.cells X 51)).alloc (.cells P 56)):=by
 have hs:=SR.start w M X
 have hsz:((w.alloc (.cells M 29)).alloc (.cells X 51)).heap.size=w.heap.size+1+1:=by simp
 exact⟨hs.m.alloc _,hs.x.alloc _,by rw[← hsz];exact AB.new _ _ _,hs.b.alloc hs.b.size _⟩
theorem S3.grow{w:World}{M X P:Array Value}{W W2:World}(s:S3 w M X P W)(hb:Below W.heap.size W W2):S3 w M X P W2:=⟨s.m.below hb s.m.lt,s.x.below hb s.x.lt,s.p.below hb s.p.lt,s.b.trans (hb.mono s.b.size)⟩
theorem Nv (h:MH) (m:AC) (k:Nat) (hk:k<4) (x:AR) (hkd:x.kind=(k:Int)) (A:Option Addr) (c:Nat) (Ap:Option Addr) (cp:Nat) (p:AA) (f:Int×Int) (w W:World) (s:S3 w #[.slice h.s m.sT.length h.sc,.slice h.f m.fT.length h.fc,.slice h.r m.rT.length h.rc,.slice h.m m.mT.length h.mc,.slice h.l m.lT.length h.lc,.slice h.i m.iT.length h.ic,.int .i64 m.dT,.int .i64 m.oT,.int .i64 m.vT,.int .i64 m.aT,.slice h.u m.uT.length h.uc] #[.int .i64 x.kind,.int .i64 x.item,.int .i64 x.other,.int .i64 x.n,.int .i64 x.by_,.bool x.always,.slice A x.machines.length c] #[.slice Ap p.length cp] W) (C:Cond W h m x A Ap cp p) :
    Calls Tryz.prog 68 #[.agg #[.int .i64 f.1,.int .i64 f.2],.pointer (some ⟨w.heap.size,0,none⟩),.pointer (some ⟨w.heap.size+1,0,none⟩),.pointer (some ⟨w.heap.size+1+1,0,none⟩)] W fun e w'=>e=.returned (.bool (!Bf m x p f))∧Below W.heap.size W w':=by
 have hb:Below W.heap.size W (W.alloc (.cells #[.int .i64 f.1,.int .i64 f.2] 109)):=(Below.refl _ _).alloc (Nat.le_refl _) _
 have HB:=hide hb
 have HH:=hide (Mr h m k hk x hkd A c Ap cp p f _ (C.grow hb))
 obtain⟨a0,a1,a2,a3,a4,a5,a6,a7,a8,a9,a10⟩:=MB.cells s.m
 have b0:=s.x.cell 0
 have b1:=s.x.cell 1
 have b2:=s.x.cell 2
 have b3:=s.x.cell 3
 have b4:=s.x.cell 4
 have b5:=s.x.cell 5
 have b6:=s.x.cell 6
 have d0:=s.p.cell 0
 simp at b0 b1 b2 b3 b4 b5 b6 d0
 have ml:=s.m.lt
 have xl:=s.x.lt
 have pl:=s.p.lt
 clear C s hb hkd
 go_enter Tryz.func68,Tryz.ntmps68
 go_wp2_with (go_at_call 69;refine HH.out.mono ?_;rintro e w1 ⟨rfl,hb1⟩;have HB1:=hide hb1;clear hb1)
 go_ret
 exact⟨by rfl,HB.out.trans (HB1.out.mono HB.out.size)⟩
theorem JX (h:MH) (m:AC) (F:Ht m) (k:Nat) (hk:k<4) (x:AR) (hkd:x.kind=(k:Int)) (A:Option Addr) (c:Nat) (Ap:Option Addr) (cp:Nat) (p:AA) (w:World) (C:Cond w h m x A Ap cp p) :
    Calls Tryz.prog 29 #[.agg #[.slice h.s m.sT.length h.sc,.slice h.f m.fT.length h.fc,.slice h.r m.rT.length h.rc,.slice h.m m.mT.length h.mc,.slice h.l m.lT.length h.lc,.slice h.i m.iT.length h.ic,.int .i64 m.dT,.int .i64 m.oT,.int .i64 m.vT,.int .i64 m.aT,.slice h.u m.uT.length h.uc],.agg #[.int .i64 x.kind,.int .i64 x.item,.int .i64 x.other,.int .i64 x.n,.int .i64 x.by_,.bool x.always,.slice A x.machines.length c],.agg #[.slice Ap p.length cp]] w (Br w (.bool (CB m x p))):=by
 have hs:=S3.start w #[.slice h.s m.sT.length h.sc,.slice h.f m.fT.length h.fc,.slice h.r m.rT.length h.rc,.slice h.m m.mT.length h.mc,.slice h.l m.lT.length h.lc,.slice h.i m.iT.length h.ic,.int .i64 m.dT,.int .i64 m.oT,.int .i64 m.vT,.int .i64 m.aT,.slice h.u m.uT.length h.uc] #[.int .i64 x.kind,.int .i64 x.item,.int .i64 x.other,.int .i64 x.n,.int .i64 x.by_,.bool x.always,.slice A x.machines.length c] #[.slice Ap p.length cp]
 have HS:=hide hs
 have HF:=hide (KD h m F k hk x hkd A c (((w.alloc (.cells #[.slice h.s m.sT.length h.sc,.slice h.f m.fT.length h.fc,.slice h.r m.rT.length h.rc,.slice h.m m.mT.length h.mc,.slice h.l m.lT.length h.lc,.slice h.i m.iT.length h.ic,.int .i64 m.dT,.int .i64 m.oT,.int .i64 m.vT,.int .i64 m.aT,.slice h.u m.uT.length h.uc] 29)).alloc (.cells #[.int .i64 x.kind,.int .i64 x.item,.int .i64 x.other,.int .i64 x.n,.int .i64 x.by_,.bool x.always,.slice A x.machines.length c] 51)).alloc (.cells #[.slice Ap p.length cp] 56)))
 have HC:=hide (fun(A1:Option Addr) (c1:Nat) (w1:World) (hb:Below (((w.alloc (.cells #[.slice h.s m.sT.length h.sc,.slice h.f m.fT.length h.fc,.slice h.r m.rT.length h.rc,.slice h.m m.mT.length h.mc,.slice h.l m.lT.length h.lc,.slice h.i m.iT.length h.ic,.int .i64 m.dT,.int .i64 m.oT,.int .i64 m.vT,.int .i64 m.aT,.slice h.u m.uT.length h.uc] 29)).alloc (.cells #[.int .i64 x.kind,.int .i64 x.item,.int .i64 x.other,.int .i64 x.n,.int .i64 x.by_,.bool x.always,.slice A x.machines.length c] 51)).alloc (.cells #[.slice Ap p.length cp] 56)).heap.size (((w.alloc (.cells #[.slice h.s m.sT.length h.sc,.slice h.f m.fT.length h.fc,.slice h.r m.rT.length h.rc,.slice h.m m.mT.length h.mc,.slice h.l m.lT.length h.lc,.slice h.i m.iT.length h.ic,.int .i64 m.dT,.int .i64 m.oT,.int .i64 m.vT,.int .i64 m.aT,.slice h.u m.uT.length h.uc] 29)).alloc (.cells #[.int .i64 x.kind,.int .i64 x.item,.int .i64 x.other,.int .i64 x.n,.int .i64 x.by_,.bool x.always,.slice A x.machines.length c] 51)).alloc (.cells #[.slice Ap p.length cp] 56)) w1) (hl:(Ca m x).length≤9223372036854775807) (hI:FR w1 w1.heap.size A1 (Ca m x)) =>
  H5 68 #[.pointer (some ⟨w.heap.size,0,none⟩),.pointer (some ⟨w.heap.size+1,0,none⟩),.pointer (some ⟨w.heap.size+1+1,0,none⟩)] (fun _ _=>by kernel_rfl) (fun f=>!Bf m x p f) A1 c1 (Ca m x) w1 hl hI (fun i hi W hW=>Nv h m k hk x hkd A c Ap cp p _ w W ((hs.grow hb).grow hW) (((C.grow hs.b).grow hb).grow hW)))
 have HV:=hide (show(!(Ca m x).any fun f=>!Bf m x p f)=CB m x p by simp[CB,List.all_eq_not_any_not])
 clear C hkd hs
 go_enter Tryz.func29,Tryz.ntmps29
 go_wp2_with (first
  | (go_at_call 67;refine HF.out.mono ?_;rintro e w1 ⟨v,rfl,ho,hb⟩;obtain⟨A1,c1,rfl,hI,hlm⟩:=CP.form ho
     have HX:=hide (HC.out A1 c1 w1 hb hlm hI)
     have HB1:=hide hb
     clear ho hb hI hlm)
  | (go_at_call 66;refine HX.out.mono ?_;rintro e w2 ⟨rfl,hb2⟩;have HB2:=hide hb2;clear hb2))
 go_ret
 have hb:=HS.out.b.trans (HB1.out.mono HS.out.b.size)
 exact⟨by rw[← HV.out];rfl,hb.trans (HB2.out.mono hb.size)⟩
structure SL (w:World) (M X:Array Value) (W:World):Prop where
 s:SR w M X W
 l:AB W (w.heap.size+1+1) 3 #[.int .i64 0,.int .i64 1,.int .i64 2,.int .i64 3]
theorem SL.b{w:World}{M X:Array Value}{W:World}(s:SL w M X W):Below w.heap.size w W:=s.s.b
theorem SL.start (w:World) (M X:Array Value):SL w M X (((w.alloc (.cells M 29)).alloc (.cells X 51)).alloc (.cells #[.int .i64 0,.int .i64 1,.int .i64 2,.int .i64 3] 3)):=by
 have hs:=SR.start w M X
 have hsz:((w.alloc (.cells M 29)).alloc (.cells X 51)).heap.size=w.heap.size+1+1:=by simp
 exact⟨hs.grow ((Below.refl _ _).alloc (Nat.le_refl _) _),by rw[← hsz];exact AB.new _ _ _⟩
theorem SL.drew{w:World}{M X:Array Value}{W:World}(s:SL w M X W):SL w M X W.drew:=⟨s.s.drew,s.l⟩
theorem SL.grow{w:World}{M X:Array Value}{W W2:World}(s:SL w M X W)(hb:Below W.heap.size W W2):SL w M X W2:=⟨s.s.grow hb,s.l.below hb s.l.lt⟩
theorem SL.ints {w:World} {M X:Array Value} {W:World} (s:SL w M X W):Ints W W.heap.size (some ⟨w.heap.size+1+1,0,none⟩) [0,1,2,3] :=
 ⟨rfl,fun _=>⟨_,rfl,s.l.lt,fun j u hu=>by rw[BA,Nat.zero_add,s.l.cell];simpa using hu⟩⟩
theorem SL.cells {w:World} {h:MH} {m:AC} {x:AR} {A:Option Addr} {c:Nat} {W:World} (s:SL w #[.slice h.s m.sT.length h.sc,.slice h.f m.fT.length h.fc,.slice h.r m.rT.length h.rc,.slice h.m m.mT.length h.mc,.slice h.l m.lT.length h.lc,.slice h.i m.iT.length h.ic,.int .i64 m.dT,.int .i64 m.oT,.int .i64 m.vT,.int .i64 m.aT,.slice h.u m.uT.length h.uc] #[.int .i64 x.kind,.int .i64 x.item,.int .i64 x.other,.int .i64 x.n,.int .i64 x.by_,.bool x.always,.slice A x.machines.length c] W):(W.cell? ⟨w.heap.size,0,none⟩=some (.slice h.s m.sT.length h.sc)∧W.cell? ⟨w.heap.size,1,none⟩=some (.slice h.f m.fT.length h.fc)∧W.cell? ⟨w.heap.size,2,none⟩=some (.slice h.r m.rT.length h.rc)∧W.cell? ⟨w.heap.size,3,none⟩=some (.slice h.m m.mT.length h.mc)∧W.cell? ⟨w.heap.size,4,none⟩=some (.slice h.l m.lT.length h.lc)∧W.cell? ⟨w.heap.size,5,none⟩=some (.slice h.i m.iT.length h.ic)∧W.cell? ⟨w.heap.size,6,none⟩=some (.int .i64 m.dT)∧W.cell? ⟨w.heap.size,7,none⟩=some (.int .i64 m.oT)∧W.cell? ⟨w.heap.size,8,none⟩=some (.int .i64 m.vT)∧W.cell? ⟨w.heap.size,9,none⟩=some (.int .i64 m.aT)∧W.cell? ⟨w.heap.size,10,none⟩=some (.slice h.u m.uT.length h.uc))∧(W.cell? ⟨w.heap.size+1,0,none⟩=some (.int .i64 x.kind)∧W.cell? ⟨w.heap.size+1,1,none⟩=some (.int .i64 x.item)∧W.cell? ⟨w.heap.size+1,2,none⟩=some (.int .i64 x.other)∧W.cell? ⟨w.heap.size+1,3,none⟩=some (.int .i64 x.n)∧W.cell? ⟨w.heap.size+1,4,none⟩=some (.int .i64 x.by_)∧W.cell? ⟨w.heap.size+1,5,none⟩=some (.bool x.always)∧W.cell? ⟨w.heap.size+1,6,none⟩=some (.slice A x.machines.length c))∧W.cell? ⟨w.heap.size+1+1,0,none⟩=some (.int .i64 0)∧W.cell? ⟨w.heap.size+1+1,1,none⟩=some (.int .i64 1)∧W.cell? ⟨w.heap.size+1+1,2,none⟩=some (.int .i64 2)∧W.cell? ⟨w.heap.size+1+1,3,none⟩=some (.int .i64 3) :=
 ⟨⟨s.s.m.cell 0,s.s.m.cell 1,s.s.m.cell 2,s.s.m.cell 3,s.s.m.cell 4,s.s.m.cell 5,s.s.m.cell 6,s.s.m.cell 7,s.s.m.cell 8,s.s.m.cell 9,s.s.m.cell 10⟩,⟨s.s.x.cell 0,s.s.x.cell 1,s.s.x.cell 2,s.s.x.cell 3,s.s.x.cell 4,s.s.x.cell 5,s.s.x.cell 6⟩,s.l.cell 0,s.l.cell 1,s.l.cell 2,s.l.cell 3⟩
structure En (w:World) (h:MH) (m:AC) (x:AR) (A:Option Addr):Prop where
 d:MD w w.heap.size h m
 f:Ht m
 i:Ints w w.heap.size A x.machines
 il:x.machines.length≤9223372036854775807
 il2:m.iT.length≤100
 on:∀ y∈m.iT,y.on.length≤100
theorem En.dm {w:World} {h:MH} {m:AC} {x:AR} {A:Option Addr} (c:En w h m x A):AZ m x.by_≤100:=by
 have h1:=c.f.cm
 have h2:=c.f.cr
 have h3:=c.f.ce
 have h4:=c.f.cs
 unfold AZ
 repeat' split
 all_goals omega
theorem En.cond {w w':World} {h:MH} {m:AC} {x:AR} {A Ap:Option Addr} {cp:Nat} {p:AA} (c:En w h m x A) (hb:Below w.heap.size w w') (hp:PT w' (.slice Ap p.length cp) p) (hl:p.length≤1000) (hu:∀ l∈p,l.length≤1000):Cond w' h m x A Ap cp p :=
 ⟨c.d.grow hb,c.i.grow hb,c.il,hp.pr,hl,by
   unfold AQ
   split
   · rw[List.getD_eq_getElem?_getD]
     cases e:p[(x.item - 1).toNat]? with
     | none=>simp
     | some l=>exact hu l (List.mem_of_getElem? e)
   · simp,c.dm⟩
theorem Ny {m:AC} (ho:∀ y∈m.iT,y.on.length≤100):∀ l∈Al m,l.length≤1000:=by
 intro l hl
 simp only[Al,List.mem_map] at hl
 obtain⟨y,hy,rfl⟩:=hl
 have:=ho y hy
 simp;omega
theorem Ol (h:MH) (m:AC) (k:Nat) (hk:k<4) (x:AR) (hkd:x.kind=(k:Int)) (A:Option Addr) (c:Nat) (w:World) (C:En w h m x A) (hj:Ai m x.item≠2) :
    Calls Tryz.prog 27 #[.agg #[.slice h.s m.sT.length h.sc,.slice h.f m.fT.length h.fc,.slice h.r m.rT.length h.rc,.slice h.m m.mT.length h.mc,.slice h.l m.lT.length h.lc,.slice h.i m.iT.length h.ic,.int .i64 m.dT,.int .i64 m.oT,.int .i64 m.vT,.int .i64 m.aT,.slice h.u m.uT.length h.uc],.agg #[.int .i64 x.kind,.int .i64 x.item,.int .i64 x.other,.int .i64 x.n,.int .i64 x.by_,.bool x.always,.slice A x.machines.length c]] w (Br w (.bool (CB m x (Al m)))):=by
 have HS:=hide (SL.start w #[.slice h.s m.sT.length h.sc,.slice h.f m.fT.length h.fc,.slice h.r m.rT.length h.rc,.slice h.m m.mT.length h.mc,.slice h.l m.lT.length h.lc,.slice h.i m.iT.length h.ic,.int .i64 m.dT,.int .i64 m.oT,.int .i64 m.vT,.int .i64 m.aT,.slice h.u m.uT.length h.uc] #[.int .i64 x.kind,.int .i64 x.item,.int .i64 x.other,.int .i64 x.n,.int .i64 x.by_,.bool x.always,.slice A x.machines.length c])
 have HCO:=hide (fun W (hI:Ints W W.heap.size (some ⟨w.heap.size+1+1,0,none⟩) [0,1,2,3])=>(show Calls Tryz.prog 65 #[.slice (some ⟨w.heap.size+1+1,0,none⟩) 4 4,.int .i64 x.kind] W fun e w'=>e=.returned (.bool (decide (x.kind∈([0,1,2,3]:List Int))))∧W=w' from DV (some ⟨w.heap.size+1+1,0,none⟩) 4 [0,1,2,3] x.kind W (by simp) hI))
 have HKI:=hide (fun W (hb:Below w.heap.size w W)=>Cx h m x.item W (C.d.grow hb))
 have HIN:=hide (fun W (hb:Below w.heap.size w W)=>GJ h m W (C.d.grow hb) (by have:=C.il2;omega) (fun y hy=>by have:=C.on y hy;omega))
 have HHO:=hide (fun W (hb:Below w.heap.size w W) (A3:Option Addr) (c3:Nat) (hp:PT W (.slice A3 (Al m).length c3) (Al m))=>JX h m C.f k hk x hkd A c A3 c3 (Al m) W (C.cond hb hp (by have:=C.il2;simp[Al];omega) (Ny C.on)))
 have h4:k=0∨k=1∨k=2∨k=3:=by omega
 have hin:decide (x.kind∈([0,1,2,3]:List Int))=true:=by rw[decide_eq_true_eq,hkd];rcases h4 with rfl|rfl|rfl|rfl <;> simp
 rw[hin] at HCO
 have hnj:(Ai m x.item != 2)=true:=by simpa using hj
 have hU:undef=Value.tuple #[]:=rfl
 clear C hj hkd h4 hin
 go_enter Tryz.func27,Tryz.ntmps27
 go_wp2_with fail
 (go_region_held3 (fun W=>((W.cell? ⟨w.heap.size,0,none⟩=some (.slice h.s m.sT.length h.sc)∧W.cell? ⟨w.heap.size,1,none⟩=some (.slice h.f m.fT.length h.fc)∧W.cell? ⟨w.heap.size,2,none⟩=some (.slice h.r m.rT.length h.rc)∧W.cell? ⟨w.heap.size,3,none⟩=some (.slice h.m m.mT.length h.mc)∧W.cell? ⟨w.heap.size,4,none⟩=some (.slice h.l m.lT.length h.lc)∧W.cell? ⟨w.heap.size,5,none⟩=some (.slice h.i m.iT.length h.ic)∧W.cell? ⟨w.heap.size,6,none⟩=some (.int .i64 m.dT)∧W.cell? ⟨w.heap.size,7,none⟩=some (.int .i64 m.oT)∧W.cell? ⟨w.heap.size,8,none⟩=some (.int .i64 m.vT)∧W.cell? ⟨w.heap.size,9,none⟩=some (.int .i64 m.aT)∧W.cell? ⟨w.heap.size,10,none⟩=some (.slice h.u m.uT.length h.uc))∧(W.cell? ⟨w.heap.size+1,0,none⟩=some (.int .i64 x.kind)∧W.cell? ⟨w.heap.size+1,1,none⟩=some (.int .i64 x.item)∧W.cell? ⟨w.heap.size+1,2,none⟩=some (.int .i64 x.other)∧W.cell? ⟨w.heap.size+1,3,none⟩=some (.int .i64 x.n)∧W.cell? ⟨w.heap.size+1,4,none⟩=some (.int .i64 x.by_)∧W.cell? ⟨w.heap.size+1,5,none⟩=some (.bool x.always)∧W.cell? ⟨w.heap.size+1,6,none⟩=some (.slice A x.machines.length c))∧W.cell? ⟨w.heap.size+1+1,0,none⟩=some (.int .i64 0)∧W.cell? ⟨w.heap.size+1+1,1,none⟩=some (.int .i64 1)∧W.cell? ⟨w.heap.size+1+1,2,none⟩=some (.int .i64 2)∧W.cell? ⟨w.heap.size+1+1,3,none⟩=some (.int .i64 3))∧SL w #[.slice h.s m.sT.length h.sc,.slice h.f m.fT.length h.fc,.slice h.r m.rT.length h.rc,.slice h.m m.mT.length h.mc,.slice h.l m.lT.length h.lc,.slice h.i m.iT.length h.ic,.int .i64 m.dT,.int .i64 m.oT,.int .i64 m.vT,.int .i64 m.aT,.slice h.u m.uT.length h.uc] #[.int .i64 x.kind,.int .i64 x.item,.int .i64 x.other,.int .i64 x.n,.int .i64 x.by_,.bool x.always,.slice A x.machines.length c] W) ((with_reducible (first|(go_keep;done)|exact⟨SL.cells HS.out.drew,HS.out.drew⟩|exact⟨SL.cells c9,c9⟩|exact⟨SL.cells c8,c8⟩|exact⟨SL.cells c7,c7⟩|(have hH:=(by assumption:_∧SL _ _ _ _);exact⟨SL.cells (SL.drew hH.2),SL.drew hH.2⟩)))) (((first
       | (go_at_call 65;first
           | (have hH:=(by assumption:_∧SL _ _ _ _);have hI:=SL.ints hH.2;(with_reducible refine(HCO.out _ hI).mono ?_);rintro e w1 ⟨rfl,rfl⟩;clear hH hI)
           | (have hI:=SL.ints HS.out.drew;(with_reducible refine(HCO.out _ hI).mono ?_);rintro e w1 ⟨rfl,rfl⟩;clear hI))
       | (go_at_call 32;first|(have hH:=(by assumption:_∧SL _ _ _ _);have hbw:=SL.b hH.2;(with_reducible refine(HKI.out _ hbw).mono ?_);rintro e w2 ⟨rfl,hb2⟩;skip;have c7:=SL.grow hH.2 hb2;clear hb2 hH hbw)|(have hH:=And.intro (SL.cells HS.out.drew) HS.out.drew;have hbw:=SL.b hH.2;(with_reducible refine(HKI.out _ hbw).mono ?_);rintro e w2 ⟨rfl,hb2⟩;skip;have c7:=SL.grow hH.2 hb2;clear hb2 hH hbw))
       | (go_at_call 24;first|(have hH:=(by assumption:_∧SL _ _ _ _);have hbw:=SL.b hH.2;(with_reducible refine(HIN.out _ hbw).mono ?_);rintro e w3 ⟨A3,c3,rfl,hp3,hb3⟩;have HP3:=hide hp3;clear hp3;have c8:=SL.grow hH.2 hb3;clear hb3 hH hbw)|(have hH:=And.intro (SL.cells HS.out.drew) HS.out.drew;have hbw:=SL.b hH.2;(with_reducible refine(HIN.out _ hbw).mono ?_);rintro e w3 ⟨A3,c3,rfl,hp3,hb3⟩;have HP3:=hide hp3;clear hp3;have c8:=SL.grow hH.2 hb3;clear hb3 hH hbw))
       | (go_at_call 29;first
           | (have hH:=(by assumption:_∧SL _ _ _ _);have hbw:=SL.b hH.2;have hpt:=HP3.out;(with_reducible refine(HHO.out _ hbw A3 c3 hpt).mono ?_);rintro e w4 ⟨rfl,hb4⟩;have c9:=SL.grow hH.2 hb4;clear hb4 hH hbw hpt)
           | (have hbw:=SL.b c8;have hpt:=HP3.out;(with_reducible refine(HHO.out _ hbw A3 c3 hpt).mono ?_);rintro e w4 ⟨rfl,hb4⟩;have c9:=SL.grow c8 hb4;clear hb4 hbw hpt))))))
 all_goals
  go_wp2_with fail
  go_ret
  exact⟨by rfl,c9.s.b⟩
end Go.Proofs.YtfemlajeomohhaaGreatDoor
