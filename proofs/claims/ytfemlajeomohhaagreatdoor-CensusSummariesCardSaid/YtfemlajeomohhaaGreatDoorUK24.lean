/- A part of the claim: see its last text. -/
import Derived.Test.YtfemlajeomohhaaGreatDoorUK16
import Derived.Test.YtfemlajeomohhaaGreatDoorUK23

set_option maxRecDepth 100000
set_option maxHeartbeats 16000000
namespace Go.Proofs.YtfemlajeomohhaaGreatDoor
open Go Go.RowKit Go.Proofs
theorem Ar(w:World)(c1 c2:Array Value)(t1 t2:TypeId):Below w.heap.size w ((w.alloc (.cells c1 t1)).alloc (.cells c2 t2)):=((Below.refl _ _).alloc (Nat.le_refl _) _).alloc (by simp) _
theorem NM(w:World)(c1 c2 c3:Array Value)(t1 t2 t3:TypeId):Below w.heap.size w (((w.alloc (.cells c1 t1)).alloc (.cells c2 t2)).alloc (.cells c3 t3)):=(((Below.refl _ _).alloc (Nat.le_refl _) _).alloc (by simp) _).alloc (by simp;omega) _
theorem Aw (n a b:Int) (w:World):Calls Tryz.prog 52 #[.int .i64 n,.int .i64 a,.int .i64 b] w fun e w'=>e=.returned (.bool (Au n a b))∧w=w':=by
 by_cases h1:a≤n <;> by_cases h2:n≤b
 all_goals
  have hL:Au n a b=(decide (a≤n) && decide (n≤b)):=rfl
  have HL:=hide hL;clear hL
  go_enter Tryz.func52,Tryz.ntmps52
  go_wp2
  go_ret
  exact⟨AJ (by rw[HL.out];simp[*]),rfl⟩
theorem QM(n l:Int):Au n 1 l=AP n l:=rfl
theorem DK (h:MH) (m:AC) (n:Int) (w:World) (_l0:m.iT.length≤9223372036854775807) :
    Calls Tryz.prog 154 #[.agg #[.slice h.s m.sT.length h.sc,.slice h.f m.fT.length h.fc,.slice h.r m.rT.length h.rc,.slice h.m m.mT.length h.mc,.slice h.l m.lT.length h.lc,.slice h.i m.iT.length h.ic,.int .i64 m.dT,.int .i64 m.oT,.int .i64 m.vT,.int .i64 m.aT,.slice h.u m.uT.length h.uc],.int .i64 n] w fun e w'=>e=.returned (.bool (AP n m.iT.length))∧w.alloc (.cells #[.slice h.s m.sT.length h.sc,.slice h.f m.fT.length h.fc,.slice h.r m.rT.length h.rc,.slice h.m m.mT.length h.mc,.slice h.l m.lT.length h.lc,.slice h.i m.iT.length h.ic,.int .i64 m.dT,.int .i64 m.oT,.int .i64 m.vT,.int .i64 m.aT,.slice h.u m.uT.length h.uc] 29)=w':=by
 have HW:=hide (fun W=>Aw n 1 m.iT.length W)
 rw[QM] at HW
 go_enter Tryz.func154,Tryz.ntmps154
 go_wp2_with (go_at_call 52;refine(HW.out _).mono ?_;rintro e w' ⟨rfl,rfl⟩)
 go_ret
 exact⟨rfl,rfl⟩
theorem IV (h:MH) (m:AC) (A:Option Addr) (c:Nat) (l:List Int) (w:World) (hl:l.length≤9223372036854775807) (_l0:m.mT.length≤9223372036854775807) (hI:Ints w w.heap.size A l) :
    Calls Tryz.prog 113 #[.agg #[.slice h.s m.sT.length h.sc,.slice h.f m.fT.length h.fc,.slice h.r m.rT.length h.rc,.slice h.m m.mT.length h.mc,.slice h.l m.lT.length h.lc,.slice h.i m.iT.length h.ic,.int .i64 m.dT,.int .i64 m.oT,.int .i64 m.vT,.int .i64 m.aT,.slice h.u m.uT.length h.uc],.slice A l.length c] w fun e w'=>e=.returned (.bool (EP m.mT.length l))∧Below w.heap.size w w':=by
 have HWI:=hide (fun(n:Int) (W:World)=>Aw n 1 m.mT.length W)
 simp only[QM] at HWI
 go_enter Tryz.func113,Tryz.ntmps113
 go_wp2_with fail
 go_loopw [9] (fun i wr=>∃ k:Nat,k≤l.length∧i=.int .i64 k∧Hid (MW w w.heap.size wr h m)∧Hid (∀ j (hj:j<l.length),j<k→AP l[j] m.mT.length=true∧(0<j→l.getD (j - 1) 0<l[j]))) (fun i _=>l.length - (intOf i).toNat)
 case atStart=>exact⟨0,Nat.zero_le _,rfl,MW.start w h m,fun j hj h0=>absurd h0 (by omega)⟩
 case round =>
  obtain⟨k,hk,rfl,hW,hs⟩:=hrel
  have hL1:=hW.out.lt
  by_cases hlt:k<l.length
  · obtain ⟨a0,a1,a2,a3,a4,a5,a6,a7,a8,a9,a10⟩:=MB.cells hW.out.blk
    clear a0 a1 a2 a4 a5 a6 a7 a8 a9 a10
    obtain⟨b,off,hA,hb,x0⟩:=Dy (hI.grow hW.out.b) hlt
    subst hA
    cases e1:AP l[k] m.mT.length
    · have HV:=hide (Fv (nm:=m.mT.length) hlt (.inl e1))
      go_wp2_with (go_at_call 52;refine(HWI.out _ _).mono ?_;rintro e w' ⟨rfl,rfl⟩)
      go_ret
      exact⟨AJ (by rw[HV.out];rfl),hW.out.b⟩
    by_cases hk0:k=0
    · have hk0I:decide (0<k)=false:=by simp[hk0]
      have HK:=hide (show AP l[k] m.mT.length=true∧(0<k→l.getD (k - 1) 0<l[k]) from⟨e1,fun h=>by omega⟩)
      have HK0:=hide hk0
      clear hk0
      go_wp2_with (go_at_call 52;refine(HWI.out _ _).mono ?_;rintro e w' ⟨rfl,rfl⟩)
      go_roundw
      case rel=>exact⟨k+1,by omega,by go_num,hW,fun q hq' h1=>by
       rcases Nat.lt_or_ge q k with h2|h2
       · exact hs q hq' h2
       · obtain rfl:q=k:=by omega
         exact HK⟩
      case measure=>simp[intOf];omega
    · obtain ⟨j,rfl⟩:∃ j,k=j+1:=⟨k - 1,by omega⟩
      obtain⟨b',off',hA',_,x1⟩:=Dy (hI.grow hW.out.b) (k:=j) (by omega)
      injection hA' with hA'
      injection hA' with hA1 hA2
      subst hA1
      subst hA2
      have hg:l.getD (j+1 - 1) 0=l[j]:=by simp[List.getD,show j<l.length by omega]
      by_cases e2:l[j+1]≤l[j]
      · have HV:=hide (Fv (nm:=m.mT.length) hlt (.inr ⟨by omega,by rw[hg];exact e2⟩))
        clear hg
        go_wp2_with (go_at_call 52;refine(HWI.out _ _).mono ?_;rintro e w' ⟨rfl,rfl⟩)
        go_ret
        exact⟨AJ (by rw[HV.out];rfl),hW.out.b⟩
      · have HK:=hide (show AP l[j+1] m.mT.length=true∧(0<j+1→l.getD (j+1 - 1) 0<l[j+1]) from⟨e1,fun h=>by rw[hg];omega⟩)
        clear hg
        go_wp2_with (go_at_call 52;refine(HWI.out _ _).mono ?_;rintro e w' ⟨rfl,rfl⟩)
        go_roundw
        case rel=>exact⟨j+1+1,by omega,by go_num,hW,fun q hq' h1=>by
         rcases Nat.lt_or_ge q (j+1) with h2|h2
         · exact hs q hq' h2
         · obtain rfl:q=j+1:=by omega
           exact HK⟩
        case measure=>simp[intOf];omega
  · have HV:=hide (Mt (nm:=m.mT.length) fun q hq _=>hs.out q hq (by omega))
    go_wp2_with fail
    go_ret
    exact⟨AJ (by rw[HV.out];rfl),hW.out.b⟩
def Dm(a b:AR):Bool:=decide (a.item=b.item) && decide (a.other=b.other) && decide (a.n=b.n) && decide (a.by_=b.by_) && (a.always == b.always) && decide (a.machines=b.machines)
theorem P6 (x y:AR) (A A2:Option Addr) (c c2:Nat) (w:World) (hl:x.machines.length≤9223372036854775807) (hl2:y.machines.length≤9223372036854775807) (hI:Ints w w.heap.size A x.machines) (hI2:Ints w w.heap.size A2 y.machines) :
    Calls Tryz.prog 116 #[.agg #[.int .i64 x.kind,.int .i64 x.item,.int .i64 x.other,.int .i64 x.n,.int .i64 x.by_,.bool x.always,.slice A x.machines.length c],.agg #[.int .i64 y.kind,.int .i64 y.item,.int .i64 y.other,.int .i64 y.n,.int .i64 y.by_,.bool y.always,.slice A2 y.machines.length c2]] w fun e w'=>e=.returned (.bool (Dm x y))∧Below w.heap.size w w':=by
 obtain⟨k,it,ot,n,bY,al,ms⟩:=x
 obtain⟨k',it',ot',n',bY',al',ms'⟩:=y
 simp only at hl hl2 hI hI2 ⊢
 have HE:=hide fun(X:World) (hX:Below w.heap.size w X)=>PL A A2 c c2 ms ms' X (hI.grow hX) (hI2.grow hX) hl hl2
 clear hI hI2
 by_cases h1:it=it'
 rotate_left
 · have HV:=hide (show Dm ⟨k,it,ot,n,bY,al,ms⟩ ⟨k',it',ot',n',bY',al',ms'⟩=false by simp[Dm,h1])
   have g:(it == it')=false:=by simpa using h1
   clear h1
   go_enter Tryz.func116,Tryz.ntmps116
   go_wp2_with fail
   go_ret
   exact⟨AJ (by rw[HV.out];rfl),Ar _ _ _ _ _⟩
 by_cases h2:ot=ot'
 rotate_left
 · have HV:=hide (show Dm ⟨k,it,ot,n,bY,al,ms⟩ ⟨k',it',ot',n',bY',al',ms'⟩=false by simp[Dm,h2])
   have g:(ot == ot')=false:=by simpa using h2
   subst h1
   clear h2
   go_enter Tryz.func116,Tryz.ntmps116
   go_wp2_with fail
   go_ret
   exact⟨AJ (by rw[HV.out];rfl),Ar _ _ _ _ _⟩
 by_cases h3:n=n'
 rotate_left
 · have HV:=hide (show Dm ⟨k,it,ot,n,bY,al,ms⟩ ⟨k',it',ot',n',bY',al',ms'⟩=false by simp[Dm,h3])
   have g:(n == n')=false:=by simpa using h3
   subst h1 h2
   clear h3
   go_enter Tryz.func116,Tryz.ntmps116
   go_wp2_with fail
   go_ret
   exact⟨AJ (by rw[HV.out];rfl),Ar _ _ _ _ _⟩
 by_cases h4:bY=bY'
 rotate_left
 · have HV:=hide (show Dm ⟨k,it,ot,n,bY,al,ms⟩ ⟨k',it',ot',n',bY',al',ms'⟩=false by simp[Dm,h4])
   have g:(bY == bY')=false:=by simpa using h4
   subst h1 h2 h3
   clear h4
   go_enter Tryz.func116,Tryz.ntmps116
   go_wp2_with fail
   go_ret
   exact⟨AJ (by rw[HV.out];rfl),Ar _ _ _ _ _⟩
 by_cases h5:al=al'
 rotate_left
 · have HV:=hide (show Dm ⟨k,it,ot,n,bY,al,ms⟩ ⟨k',it',ot',n',bY',al',ms'⟩=false by simp[Dm,h5])
   have g:(al == al')=false:=by simpa using h5
   subst h1 h2 h3 h4
   clear h5
   go_enter Tryz.func116,Tryz.ntmps116
   go_wp2_with fail
   go_ret
   exact⟨AJ (by rw[HV.out];rfl),Ar _ _ _ _ _⟩
 subst h1 h2 h3 h4 h5
 have HV:=hide (show Dm ⟨k,it,ot,n,bY,al,ms⟩ ⟨k',it,ot,n,bY,al,ms'⟩=decide (ms=ms') by simp[Dm])
 go_enter Tryz.func116,Tryz.ntmps116
 go_wp2_with (go_at_call 168;refine(HE.out _ (Ar _ _ _ _ _)).mono ?_;rintro e w1 ⟨rfl,hb1⟩)
 go_ret
 exact⟨AJ (by rw[HV.out];rfl),(Ar _ _ _ _ _).trans (hb1.mono (by simp;omega))⟩
def DU (m:AC) (k:Nat) (x:AR):Bool :=
 match k with
 | 0=>AP x.item m.iT.length && (match m.iT[(x.item - 1).toNat]? with|some y=>decide (y.kind=0)|none=>false)
 | 1=>AP x.item m.iT.length && Au x.n 0 16
 | 2=>AP x.item m.iT.length && Au x.n 0 16 && decide (x.by_∈[2,3,4])
 | 3=>AP x.item m.iT.length && EP m.mT.length x.machines
 | 4=>AP x.item m.iT.length && AP x.other m.iT.length && decide (x.item≠x.other)
 | 5=>Au x.n 0 200
 | _=>AP x.item m.iT.length && Au x.n 0 16
def MG (k:Nat) (x:AR):AR :=
 match k with
 | 0=>⟨0,x.item,0,0,0,false,[]⟩
 | 1=>⟨0,x.item,0,x.n,0,x.always,[]⟩
 | 2=>⟨0,x.item,0,x.n,x.by_,false,[]⟩
 | 3=>⟨0,x.item,0,0,0,false,x.machines⟩
 | 4=>⟨0,x.item,x.other,0,0,false,[]⟩
 | 5=>⟨0,0,0,x.n,0,false,[]⟩
 | _=>⟨0,x.item,0,x.n,0,false,[]⟩
def Ey(k:Nat):Nat:=match k with|0=>153|1=>156|2=>158|3=>160|4=>162|5=>164|_=>166
def Da(k:Nat):Nat:=match k with|0=>155|1=>157|2=>159|3=>161|4=>163|5=>165|_=>167
theorem UO (x:AR) (A:Option Addr) (c:Nat) (w:World):Calls Tryz.prog 155 #[.agg #[.int .i64 x.kind,.int .i64 x.item,.int .i64 x.other,.int .i64 x.n,.int .i64 x.by_,.bool x.always,.slice A x.machines.length c]] w fun e w'=>e=.returned (.agg #[.int .i64 0,.int .i64 x.item,.int .i64 0,.int .i64 0,.int .i64 0,.bool false,.slice none 0 0])∧Below w.heap.size w w':=by
 go_enter Tryz.func155,Tryz.ntmps155
 go_wp2_with fail
 exact bodyPost_ret (v:=.agg #[.int .i64 0,.int .i64 x.item,.int .i64 0,.int .i64 0,.int .i64 0,.bool false,.slice none 0 0]) (by simp[results,Tryz.results155,go_sem]) rfl ⟨rfl,Ar _ _ _ _ _⟩
theorem UQ (x:AR) (A:Option Addr) (c:Nat) (w:World):Calls Tryz.prog 157 #[.agg #[.int .i64 x.kind,.int .i64 x.item,.int .i64 x.other,.int .i64 x.n,.int .i64 x.by_,.bool x.always,.slice A x.machines.length c]] w fun e w'=>e=.returned (.agg #[.int .i64 0,.int .i64 x.item,.int .i64 0,.int .i64 x.n,.int .i64 0,.bool x.always,.slice none 0 0])∧Below w.heap.size w w':=by
 go_enter Tryz.func157,Tryz.ntmps157
 go_wp2_with fail
 exact bodyPost_ret (v:=.agg #[.int .i64 0,.int .i64 x.item,.int .i64 0,.int .i64 x.n,.int .i64 0,.bool x.always,.slice none 0 0]) (by simp[results,Tryz.results157,go_sem]) rfl ⟨rfl,Ar _ _ _ _ _⟩
theorem UR (x:AR) (A:Option Addr) (c:Nat) (w:World):Calls Tryz.prog 159 #[.agg #[.int .i64 x.kind,.int .i64 x.item,.int .i64 x.other,.int .i64 x.n,.int .i64 x.by_,.bool x.always,.slice A x.machines.length c]] w fun e w'=>e=.returned (.agg #[.int .i64 0,.int .i64 x.item,.int .i64 0,.int .i64 x.n,.int .i64 x.by_,.bool false,.slice none 0 0])∧Below w.heap.size w w':=by
 go_enter Tryz.func159,Tryz.ntmps159
 go_wp2_with fail
 exact bodyPost_ret (v:=.agg #[.int .i64 0,.int .i64 x.item,.int .i64 0,.int .i64 x.n,.int .i64 x.by_,.bool false,.slice none 0 0]) (by simp[results,Tryz.results159,go_sem]) rfl ⟨rfl,Ar _ _ _ _ _⟩
theorem UU (x:AR) (A:Option Addr) (c:Nat) (w:World):Calls Tryz.prog 161 #[.agg #[.int .i64 x.kind,.int .i64 x.item,.int .i64 x.other,.int .i64 x.n,.int .i64 x.by_,.bool x.always,.slice A x.machines.length c]] w fun e w'=>e=.returned (.agg #[.int .i64 0,.int .i64 x.item,.int .i64 0,.int .i64 0,.int .i64 0,.bool false,.slice A x.machines.length c])∧Below w.heap.size w w':=by
 go_enter Tryz.func161,Tryz.ntmps161
 go_wp2_with fail
 exact bodyPost_ret (v:=.agg #[.int .i64 0,.int .i64 x.item,.int .i64 0,.int .i64 0,.int .i64 0,.bool false,.slice A x.machines.length c]) (by simp[results,Tryz.results161,go_sem]) rfl ⟨rfl,Ar _ _ _ _ _⟩
theorem UV (x:AR) (A:Option Addr) (c:Nat) (w:World):Calls Tryz.prog 163 #[.agg #[.int .i64 x.kind,.int .i64 x.item,.int .i64 x.other,.int .i64 x.n,.int .i64 x.by_,.bool x.always,.slice A x.machines.length c]] w fun e w'=>e=.returned (.agg #[.int .i64 0,.int .i64 x.item,.int .i64 x.other,.int .i64 0,.int .i64 0,.bool false,.slice none 0 0])∧Below w.heap.size w w':=by
 go_enter Tryz.func163,Tryz.ntmps163
 go_wp2_with fail
 exact bodyPost_ret (v:=.agg #[.int .i64 0,.int .i64 x.item,.int .i64 x.other,.int .i64 0,.int .i64 0,.bool false,.slice none 0 0]) (by simp[results,Tryz.results163,go_sem]) rfl ⟨rfl,Ar _ _ _ _ _⟩
theorem UW (x:AR) (A:Option Addr) (c:Nat) (w:World):Calls Tryz.prog 165 #[.agg #[.int .i64 x.kind,.int .i64 x.item,.int .i64 x.other,.int .i64 x.n,.int .i64 x.by_,.bool x.always,.slice A x.machines.length c]] w fun e w'=>e=.returned (.agg #[.int .i64 0,.int .i64 0,.int .i64 0,.int .i64 x.n,.int .i64 0,.bool false,.slice none 0 0])∧Below w.heap.size w w':=by
 go_enter Tryz.func165,Tryz.ntmps165
 go_wp2_with fail
 exact bodyPost_ret (v:=.agg #[.int .i64 0,.int .i64 0,.int .i64 0,.int .i64 x.n,.int .i64 0,.bool false,.slice none 0 0]) (by simp[results,Tryz.results165,go_sem]) rfl ⟨rfl,Ar _ _ _ _ _⟩
theorem UX (x:AR) (A:Option Addr) (c:Nat) (w:World):Calls Tryz.prog 167 #[.agg #[.int .i64 x.kind,.int .i64 x.item,.int .i64 x.other,.int .i64 x.n,.int .i64 x.by_,.bool x.always,.slice A x.machines.length c]] w fun e w'=>e=.returned (.agg #[.int .i64 0,.int .i64 x.item,.int .i64 0,.int .i64 x.n,.int .i64 0,.bool false,.slice none 0 0])∧Below w.heap.size w w':=by
 go_enter Tryz.func167,Tryz.ntmps167
 go_wp2_with fail
 exact bodyPost_ret (v:=.agg #[.int .i64 0,.int .i64 x.item,.int .i64 0,.int .i64 x.n,.int .i64 0,.bool false,.slice none 0 0]) (by simp[results,Tryz.results167,go_sem]) rfl ⟨rfl,Ar _ _ _ _ _⟩
theorem VD (h:MH) (m:AC) (x:AR) (A:Option Addr) (c:Nat) (w:World) (d:MD w w.heap.size h m) (hl:x.machines.length≤9223372036854775807) (hI:Ints w w.heap.size A x.machines) :
    Calls Tryz.prog 153 #[.agg #[.slice h.s m.sT.length h.sc,.slice h.f m.fT.length h.fc,.slice h.r m.rT.length h.rc,.slice h.m m.mT.length h.mc,.slice h.l m.lT.length h.lc,.slice h.i m.iT.length h.ic,.int .i64 m.dT,.int .i64 m.oT,.int .i64 m.vT,.int .i64 m.aT,.slice h.u m.uT.length h.uc],.agg #[.int .i64 x.kind,.int .i64 x.item,.int .i64 x.other,.int .i64 x.n,.int .i64 x.by_,.bool x.always,.slice A x.machines.length c]] w fun e w'=>e=.returned (.bool (DU m 0 x))∧Below w.heap.size w w':=by
 have l0:=d.il
 have l1:=d.ml
 obtain⟨kd,it,ot,n,bY,al,ms⟩:=x
 simp only at hl hI ⊢
 have HB0:=hide (Ar w #[.slice h.s m.sT.length h.sc,.slice h.f m.fT.length h.fc,.slice h.r m.rT.length h.rc,.slice h.m m.mT.length h.mc,.slice h.l m.lT.length h.lc,.slice h.i m.iT.length h.ic,.int .i64 m.dT,.int .i64 m.oT,.int .i64 m.vT,.int .i64 m.aT,.slice h.u m.uT.length h.uc] #[.int .i64 kd,.int .i64 it,.int .i64 ot,.int .i64 n,.int .i64 bY,.bool al,.slice A ms.length c] 29 51)
 have HB1:=hide (HB0.out.alloc HB0.out.size (.cells #[.slice h.s m.sT.length h.sc,.slice h.f m.fT.length h.fc,.slice h.r m.rT.length h.rc,.slice h.m m.mT.length h.mc,.slice h.l m.lT.length h.lc,.slice h.i m.iT.length h.ic,.int .i64 m.dT,.int .i64 m.oT,.int .i64 m.vT,.int .i64 m.aT,.slice h.u m.uT.length h.uc] 29))
 cases e0:AP it m.iT.length
 · have HR:=hide (show DU m 0 ⟨kd,it,ot,n,bY,al,ms⟩=false by simp[DU,e0])
   clear d
   go_enter Tryz.func153,Tryz.ntmps153
   go_wp2_with (first
    | (go_at_call 154;refine(DK h m _ _ l0).mono ?_;rintro e w2 ⟨rfl,rfl⟩))
   go_ret
   exact⟨AJ (by rw[HR.out];rfl),HB1.out⟩
 · have hit:1≤it∧it≤(m.iT.length:Int):=by simpa[AP] using e0
   obtain⟨j,hj,rfl⟩:∃ j:Nat,j<m.iT.length∧it=(j:Int)+1:=⟨(it - 1).toNat,by omega,by omega⟩
   obtain⟨b,off,A2,c2,hA,hb,x0,x1,x2,x3,x4,x5,x6,_⟩:=d.dI.item hj
   clear x0 x2 x3 x4 x5 x6 d
   have hw1:IntKind.i64.wrap ((j:Int)+1 - 1)=(j:Int):=by rw[IntWalk.i64_in _ (by omega)];omega
   have hjI:(j:Int)<(m.iT.length:Int):=by omega
   have hb1:b<w.heap.size+1:=by omega
   have hb2:b<w.heap.size+1+1:=by omega
   have HR:=hide (show DU m 0 ⟨kd,(j:Int)+1,ot,n,bY,al,ms⟩=decide (m.iT[j].kind=0) by simp[DU,e0,hj])
   clear hit
   go_enter Tryz.func153,Tryz.ntmps153
   go_wp2_with (first
    | (go_at_call 154;refine(DK { h with i:=some ⟨b,off,none⟩ } m _ _ l0).mono ?_;rintro e w2 ⟨rfl,rfl⟩))
   go_ret
   exact⟨AJ (by rw[HR.out];first|rfl|simp),NM _ _ _ _ _ _ _⟩
theorem VE (h:MH) (m:AC) (x:AR) (A:Option Addr) (c:Nat) (w:World) (d:MD w w.heap.size h m) (hl:x.machines.length≤9223372036854775807) (hI:Ints w w.heap.size A x.machines) :
    Calls Tryz.prog 156 #[.agg #[.slice h.s m.sT.length h.sc,.slice h.f m.fT.length h.fc,.slice h.r m.rT.length h.rc,.slice h.m m.mT.length h.mc,.slice h.l m.lT.length h.lc,.slice h.i m.iT.length h.ic,.int .i64 m.dT,.int .i64 m.oT,.int .i64 m.vT,.int .i64 m.aT,.slice h.u m.uT.length h.uc],.agg #[.int .i64 x.kind,.int .i64 x.item,.int .i64 x.other,.int .i64 x.n,.int .i64 x.by_,.bool x.always,.slice A x.machines.length c]] w fun e w'=>e=.returned (.bool (DU m 1 x))∧Below w.heap.size w w':=by
 have l0:=d.il
 have l1:=d.ml
 obtain⟨kd,it,ot,n,bY,al,ms⟩:=x
 simp only at hl hI ⊢
 have HB0:=hide (Ar w #[.slice h.s m.sT.length h.sc,.slice h.f m.fT.length h.fc,.slice h.r m.rT.length h.rc,.slice h.m m.mT.length h.mc,.slice h.l m.lT.length h.lc,.slice h.i m.iT.length h.ic,.int .i64 m.dT,.int .i64 m.oT,.int .i64 m.vT,.int .i64 m.aT,.slice h.u m.uT.length h.uc] #[.int .i64 kd,.int .i64 it,.int .i64 ot,.int .i64 n,.int .i64 bY,.bool al,.slice A ms.length c] 29 51)
 have HB1:=hide (HB0.out.alloc HB0.out.size (.cells #[.slice h.s m.sT.length h.sc,.slice h.f m.fT.length h.fc,.slice h.r m.rT.length h.rc,.slice h.m m.mT.length h.mc,.slice h.l m.lT.length h.lc,.slice h.i m.iT.length h.ic,.int .i64 m.dT,.int .i64 m.oT,.int .i64 m.vT,.int .i64 m.aT,.slice h.u m.uT.length h.uc] 29))
 clear d hI hl
 have HK:=hide (show DU m 1 ⟨kd,it,ot,n,bY,al,ms⟩=(AP it m.iT.length && Au n 0 16) from rfl)
 cases e0:AP it m.iT.length <;> cases e1:Au n 0 16
 all_goals
  go_enter Tryz.func156,Tryz.ntmps156
  go_wp2_with (first
  | (go_at_call 154;refine(DK h m _ _ l0).mono ?_;rintro e w2 ⟨rfl,rfl⟩)|(go_at_call 52;refine(Aw _ _ _ _).mono ?_;rintro e w2 ⟨rfl,rfl⟩))
  go_ret
  exact⟨AJ (by rw[HK.out,e0,e1];rfl),by first|exact HB1.out|exact HB0.out⟩
theorem VF (h:MH) (m:AC) (x:AR) (A:Option Addr) (c:Nat) (w:World) (d:MD w w.heap.size h m) (hl:x.machines.length≤9223372036854775807) (hI:Ints w w.heap.size A x.machines) :
    Calls Tryz.prog 158 #[.agg #[.slice h.s m.sT.length h.sc,.slice h.f m.fT.length h.fc,.slice h.r m.rT.length h.rc,.slice h.m m.mT.length h.mc,.slice h.l m.lT.length h.lc,.slice h.i m.iT.length h.ic,.int .i64 m.dT,.int .i64 m.oT,.int .i64 m.vT,.int .i64 m.aT,.slice h.u m.uT.length h.uc],.agg #[.int .i64 x.kind,.int .i64 x.item,.int .i64 x.other,.int .i64 x.n,.int .i64 x.by_,.bool x.always,.slice A x.machines.length c]] w fun e w'=>e=.returned (.bool (DU m 2 x))∧Below w.heap.size w w':=by
 have l0:=d.il
 have l1:=d.ml
 obtain⟨kd,it,ot,n,bY,al,ms⟩:=x
 simp only at hl hI ⊢
 have HB0:=hide (Ar w #[.slice h.s m.sT.length h.sc,.slice h.f m.fT.length h.fc,.slice h.r m.rT.length h.rc,.slice h.m m.mT.length h.mc,.slice h.l m.lT.length h.lc,.slice h.i m.iT.length h.ic,.int .i64 m.dT,.int .i64 m.oT,.int .i64 m.vT,.int .i64 m.aT,.slice h.u m.uT.length h.uc] #[.int .i64 kd,.int .i64 it,.int .i64 ot,.int .i64 n,.int .i64 bY,.bool al,.slice A ms.length c] 29 51)
 have HB1:=hide (HB0.out.alloc HB0.out.size (.cells #[.slice h.s m.sT.length h.sc,.slice h.f m.fT.length h.fc,.slice h.r m.rT.length h.rc,.slice h.m m.mT.length h.mc,.slice h.l m.lT.length h.lc,.slice h.i m.iT.length h.ic,.int .i64 m.dT,.int .i64 m.oT,.int .i64 m.vT,.int .i64 m.aT,.slice h.u m.uT.length h.uc] 29))
 clear d hI hl
 have HC:=hide fun(X:World) (b:Nat) (hb:b=X.heap.size)=>DV (some ⟨b,0,none⟩) 3 [2,3,4] bY (X.alloc (.cells #[.int .i64 2,.int .i64 3,.int .i64 4] 3)) (by decide) (by subst hb;exact(Ints.newRow X 3 [2,3,4]).more (by simp))
 have HK:=hide (show DU m 2 ⟨kd,it,ot,n,bY,al,ms⟩=(AP it m.iT.length && Au n 0 16 && decide (bY∈([2,3,4]:List Int))) from rfl)
 generalize decide (bY∈([2,3,4]:List Int))=q at HC HK
 cases e0:AP it m.iT.length <;> cases e1:Au n 0 16
 all_goals
  go_enter Tryz.func158,Tryz.ntmps158
  go_wp2_with (first
  | (go_at_call 154;refine(DK h m _ _ l0).mono ?_;rintro e w2 ⟨rfl,rfl⟩)|(go_at_call 52;refine(Aw _ _ _ _).mono ?_;rintro e w2 ⟨rfl,rfl⟩)
  | (go_at_call 65;refine(HC.out _ _ (by simp)).mono ?_;rintro e w2 ⟨rfl,rfl⟩))
  go_ret
  exact⟨AJ (by rw[HK.out,e0,e1];rfl),by first|exact HB1.out|exact(HB1.out.alloc HB1.out.size _)⟩
theorem VG (h:MH) (m:AC) (x:AR) (A:Option Addr) (c:Nat) (w:World) (d:MD w w.heap.size h m) (hl:x.machines.length≤9223372036854775807) (hI:Ints w w.heap.size A x.machines) :
    Calls Tryz.prog 160 #[.agg #[.slice h.s m.sT.length h.sc,.slice h.f m.fT.length h.fc,.slice h.r m.rT.length h.rc,.slice h.m m.mT.length h.mc,.slice h.l m.lT.length h.lc,.slice h.i m.iT.length h.ic,.int .i64 m.dT,.int .i64 m.oT,.int .i64 m.vT,.int .i64 m.aT,.slice h.u m.uT.length h.uc],.agg #[.int .i64 x.kind,.int .i64 x.item,.int .i64 x.other,.int .i64 x.n,.int .i64 x.by_,.bool x.always,.slice A x.machines.length c]] w fun e w'=>e=.returned (.bool (DU m 3 x))∧Below w.heap.size w w':=by
 have l0:=d.il
 have l1:=d.ml
 obtain⟨kd,it,ot,n,bY,al,ms⟩:=x
 simp only at hl hI ⊢
 have HB0:=hide (Ar w #[.slice h.s m.sT.length h.sc,.slice h.f m.fT.length h.fc,.slice h.r m.rT.length h.rc,.slice h.m m.mT.length h.mc,.slice h.l m.lT.length h.lc,.slice h.i m.iT.length h.ic,.int .i64 m.dT,.int .i64 m.oT,.int .i64 m.vT,.int .i64 m.aT,.slice h.u m.uT.length h.uc] #[.int .i64 kd,.int .i64 it,.int .i64 ot,.int .i64 n,.int .i64 bY,.bool al,.slice A ms.length c] 29 51)
 have HB1:=hide (HB0.out.alloc HB0.out.size (.cells #[.slice h.s m.sT.length h.sc,.slice h.f m.fT.length h.fc,.slice h.r m.rT.length h.rc,.slice h.m m.mT.length h.mc,.slice h.l m.lT.length h.lc,.slice h.i m.iT.length h.ic,.int .i64 m.dT,.int .i64 m.oT,.int .i64 m.vT,.int .i64 m.aT,.slice h.u m.uT.length h.uc] 29))
 have HI:=hide (hI.grow HB1.out)
 cases e0:AP it m.iT.length
 · have HR:=hide (show DU m 3 ⟨kd,it,ot,n,bY,al,ms⟩=false by simp[DU,e0])
   clear d
   go_enter Tryz.func160,Tryz.ntmps160
   go_wp2_with (first
    | (go_at_call 154;refine(DK h m _ _ l0).mono ?_;rintro e w2 ⟨rfl,rfl⟩))
   go_ret
   exact⟨AJ (by rw[HR.out];rfl),HB1.out⟩
 · have HR:=hide (show DU m 3 ⟨kd,it,ot,n,bY,al,ms⟩=EP m.mT.length ms by simp[DU,e0])
   clear d
   go_enter Tryz.func160,Tryz.ntmps160
   go_wp2_with (first
    | (go_at_call 154;refine(DK h m _ _ l0).mono ?_;rintro e w2 ⟨rfl,rfl⟩)
    | (go_at_call 113;refine(IV h m A c ms _ hl l1 HI.out).mono ?_;rintro e w3 ⟨rfl,hb3⟩))
   go_ret
   exact⟨AJ (by rw[HR.out];rfl),HB1.out.trans (hb3.mono HB1.out.size)⟩
theorem VH (h:MH) (m:AC) (x:AR) (A:Option Addr) (c:Nat) (w:World) (d:MD w w.heap.size h m) (hl:x.machines.length≤9223372036854775807) (hI:Ints w w.heap.size A x.machines) :
    Calls Tryz.prog 162 #[.agg #[.slice h.s m.sT.length h.sc,.slice h.f m.fT.length h.fc,.slice h.r m.rT.length h.rc,.slice h.m m.mT.length h.mc,.slice h.l m.lT.length h.lc,.slice h.i m.iT.length h.ic,.int .i64 m.dT,.int .i64 m.oT,.int .i64 m.vT,.int .i64 m.aT,.slice h.u m.uT.length h.uc],.agg #[.int .i64 x.kind,.int .i64 x.item,.int .i64 x.other,.int .i64 x.n,.int .i64 x.by_,.bool x.always,.slice A x.machines.length c]] w fun e w'=>e=.returned (.bool (DU m 4 x))∧Below w.heap.size w w':=by
 have l0:=d.il
 have l1:=d.ml
 obtain⟨kd,it,ot,n,bY,al,ms⟩:=x
 simp only at hl hI ⊢
 have HB0:=hide (Ar w #[.slice h.s m.sT.length h.sc,.slice h.f m.fT.length h.fc,.slice h.r m.rT.length h.rc,.slice h.m m.mT.length h.mc,.slice h.l m.lT.length h.lc,.slice h.i m.iT.length h.ic,.int .i64 m.dT,.int .i64 m.oT,.int .i64 m.vT,.int .i64 m.aT,.slice h.u m.uT.length h.uc] #[.int .i64 kd,.int .i64 it,.int .i64 ot,.int .i64 n,.int .i64 bY,.bool al,.slice A ms.length c] 29 51)
 have HB1:=hide (HB0.out.alloc HB0.out.size (.cells #[.slice h.s m.sT.length h.sc,.slice h.f m.fT.length h.fc,.slice h.r m.rT.length h.rc,.slice h.m m.mT.length h.mc,.slice h.l m.lT.length h.lc,.slice h.i m.iT.length h.ic,.int .i64 m.dT,.int .i64 m.oT,.int .i64 m.vT,.int .i64 m.aT,.slice h.u m.uT.length h.uc] 29))
 clear d hI hl
 have HB2:=hide (HB1.out.alloc HB1.out.size (.cells #[.slice h.s m.sT.length h.sc,.slice h.f m.fT.length h.fc,.slice h.r m.rT.length h.rc,.slice h.m m.mT.length h.mc,.slice h.l m.lT.length h.lc,.slice h.i m.iT.length h.ic,.int .i64 m.dT,.int .i64 m.oT,.int .i64 m.vT,.int .i64 m.aT,.slice h.u m.uT.length h.uc] 29))
 by_cases e2:it=ot
 · subst e2
   have HR:=hide (show DU m 4 ⟨kd,it,it,n,bY,al,ms⟩=false by simp[DU])
   have g3:(it != it)=false:=by simp
   cases e0:AP it m.iT.length
   all_goals
    go_enter Tryz.func162,Tryz.ntmps162
    go_wp2_with (first
    | (go_at_call 154;refine(DK h m _ _ l0).mono ?_;rintro e w2 ⟨rfl,rfl⟩)|(go_at_call 52;refine(Aw _ _ _ _).mono ?_;rintro e w2 ⟨rfl,rfl⟩))
    go_ret
    exact⟨AJ (by rw[HR.out];rfl),by first|exact HB2.out|exact HB1.out|exact HB0.out⟩
 · have HR:=hide (show DU m 4 ⟨kd,it,ot,n,bY,al,ms⟩=(AP it m.iT.length && AP ot m.iT.length) by simp[DU,e2])
   have g3:(it != ot)=true:=by simpa using e2
   clear e2
   cases e0:AP it m.iT.length <;> cases e1:AP ot m.iT.length
   all_goals
    go_enter Tryz.func162,Tryz.ntmps162
    go_wp2_with (first
    | (go_at_call 154;refine(DK h m _ _ l0).mono ?_;rintro e w2 ⟨rfl,rfl⟩)|(go_at_call 52;refine(Aw _ _ _ _).mono ?_;rintro e w2 ⟨rfl,rfl⟩))
    go_ret
    exact⟨AJ (by rw[HR.out,e0,e1];rfl),by first|exact HB2.out|exact HB1.out|exact HB0.out⟩
theorem VI (h:MH) (m:AC) (x:AR) (A:Option Addr) (c:Nat) (w:World) (d:MD w w.heap.size h m) (hl:x.machines.length≤9223372036854775807) (hI:Ints w w.heap.size A x.machines) :
    Calls Tryz.prog 164 #[.agg #[.slice h.s m.sT.length h.sc,.slice h.f m.fT.length h.fc,.slice h.r m.rT.length h.rc,.slice h.m m.mT.length h.mc,.slice h.l m.lT.length h.lc,.slice h.i m.iT.length h.ic,.int .i64 m.dT,.int .i64 m.oT,.int .i64 m.vT,.int .i64 m.aT,.slice h.u m.uT.length h.uc],.agg #[.int .i64 x.kind,.int .i64 x.item,.int .i64 x.other,.int .i64 x.n,.int .i64 x.by_,.bool x.always,.slice A x.machines.length c]] w fun e w'=>e=.returned (.bool (DU m 5 x))∧Below w.heap.size w w':=by
 have l0:=d.il
 have l1:=d.ml
 obtain⟨kd,it,ot,n,bY,al,ms⟩:=x
 simp only at hl hI ⊢
 have HB0:=hide (Ar w #[.slice h.s m.sT.length h.sc,.slice h.f m.fT.length h.fc,.slice h.r m.rT.length h.rc,.slice h.m m.mT.length h.mc,.slice h.l m.lT.length h.lc,.slice h.i m.iT.length h.ic,.int .i64 m.dT,.int .i64 m.oT,.int .i64 m.vT,.int .i64 m.aT,.slice h.u m.uT.length h.uc] #[.int .i64 kd,.int .i64 it,.int .i64 ot,.int .i64 n,.int .i64 bY,.bool al,.slice A ms.length c] 29 51)
 have HB1:=hide (HB0.out.alloc HB0.out.size (.cells #[.slice h.s m.sT.length h.sc,.slice h.f m.fT.length h.fc,.slice h.r m.rT.length h.rc,.slice h.m m.mT.length h.mc,.slice h.l m.lT.length h.lc,.slice h.i m.iT.length h.ic,.int .i64 m.dT,.int .i64 m.oT,.int .i64 m.vT,.int .i64 m.aT,.slice h.u m.uT.length h.uc] 29))
 clear d hI hl
 have HK:=hide (show DU m 5 ⟨kd,it,ot,n,bY,al,ms⟩=(Au n 0 200) from rfl)
 cases e1:Au n 0 200
 all_goals
  go_enter Tryz.func164,Tryz.ntmps164
  go_wp2_with (first
  | (go_at_call 154;refine(DK h m _ _ l0).mono ?_;rintro e w2 ⟨rfl,rfl⟩)|(go_at_call 52;refine(Aw _ _ _ _).mono ?_;rintro e w2 ⟨rfl,rfl⟩))
  go_ret
  exact⟨AJ (by rw[HK.out,e1];rfl),by first|exact HB1.out|exact HB0.out⟩
theorem VJ (h:MH) (m:AC) (x:AR) (A:Option Addr) (c:Nat) (w:World) (d:MD w w.heap.size h m) (hl:x.machines.length≤9223372036854775807) (hI:Ints w w.heap.size A x.machines) :
    Calls Tryz.prog 166 #[.agg #[.slice h.s m.sT.length h.sc,.slice h.f m.fT.length h.fc,.slice h.r m.rT.length h.rc,.slice h.m m.mT.length h.mc,.slice h.l m.lT.length h.lc,.slice h.i m.iT.length h.ic,.int .i64 m.dT,.int .i64 m.oT,.int .i64 m.vT,.int .i64 m.aT,.slice h.u m.uT.length h.uc],.agg #[.int .i64 x.kind,.int .i64 x.item,.int .i64 x.other,.int .i64 x.n,.int .i64 x.by_,.bool x.always,.slice A x.machines.length c]] w fun e w'=>e=.returned (.bool (DU m 6 x))∧Below w.heap.size w w':=by
 have l0:=d.il
 have l1:=d.ml
 obtain⟨kd,it,ot,n,bY,al,ms⟩:=x
 simp only at hl hI ⊢
 have HB0:=hide (Ar w #[.slice h.s m.sT.length h.sc,.slice h.f m.fT.length h.fc,.slice h.r m.rT.length h.rc,.slice h.m m.mT.length h.mc,.slice h.l m.lT.length h.lc,.slice h.i m.iT.length h.ic,.int .i64 m.dT,.int .i64 m.oT,.int .i64 m.vT,.int .i64 m.aT,.slice h.u m.uT.length h.uc] #[.int .i64 kd,.int .i64 it,.int .i64 ot,.int .i64 n,.int .i64 bY,.bool al,.slice A ms.length c] 29 51)
 have HB1:=hide (HB0.out.alloc HB0.out.size (.cells #[.slice h.s m.sT.length h.sc,.slice h.f m.fT.length h.fc,.slice h.r m.rT.length h.rc,.slice h.m m.mT.length h.mc,.slice h.l m.lT.length h.lc,.slice h.i m.iT.length h.ic,.int .i64 m.dT,.int .i64 m.oT,.int .i64 m.vT,.int .i64 m.aT,.slice h.u m.uT.length h.uc] 29))
 clear d hI hl
 have HK:=hide (show DU m 6 ⟨kd,it,ot,n,bY,al,ms⟩=(AP it m.iT.length && Au n 0 16) from rfl)
 cases e0:AP it m.iT.length <;> cases e1:Au n 0 16
 all_goals
  go_enter Tryz.func166,Tryz.ntmps166
  go_wp2_with (first
  | (go_at_call 154;refine(DK h m _ _ l0).mono ?_;rintro e w2 ⟨rfl,rfl⟩)|(go_at_call 52;refine(Aw _ _ _ _).mono ?_;rintro e w2 ⟨rfl,rfl⟩))
  go_ret
  exact⟨AJ (by rw[HK.out,e0,e1];rfl),by first|exact HB1.out|exact HB0.out⟩
end Go.Proofs.YtfemlajeomohhaaGreatDoor
