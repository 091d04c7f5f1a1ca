/- A part of the claim: see its last text. -/
import Derived.Test.YtfemlajeomohhaaGreatDoorUK11
import Derived.Test.YtfemlajeomohhaaGreatDoorUOpens14Z
import Derived.Laws.ResultCell

set_option maxRecDepth 100000
set_option maxHeartbeats 16000000
namespace Go.Proofs.YtfemlajeomohhaaGreatDoor
open Go
abbrev CK:=Int×Int×Int×Int
def BB(m:AC)(r:AR):Bool:=(decide (r.kind=0) || decide (r.kind=1) || decide (r.kind=2) || decide (r.kind=3)) && !decide (Ai m r.item=2) && CB m r (Al m)
def GG(m:AC)(p:AA)(i k:Nat)(r:AR):List CK:=if BB m r && !CB m r p then [((i:Int),r.kind,(k:Int)+1,r.item)] else []
def Cu(m:AC)(p:AA)(i n:Nat):List CK:=(List.range n).flatMap fun k=>match m.uT[k]? with|some r=>GG m p i k r|none=>[]
theorem JW(m:AC)(p:AA)(i:Nat):Cu m p i 0=[]:=rfl
theorem JV (m:AC) (p:AA) (i:Nat) {k:Nat} (hk:k<m.uT.length):Cu m p i (k+1)=Cu m p i k++GG m p i k m.uT[k]:=by
 unfold Cu
 rw[List.range_succ,List.flatMap_append]
 simp[hk]
def J8(m:AC)(l:List EvM)(i:Nat):List CK:=match l[i]? with|some e=>if Ah m e then Cu m (AX m l (i+1)) i m.uT.length else []|none=>[]
def BJ(m:AC)(l:List EvM)(n:Nat):List CK:=(List.range n).flatMap (J8 m l)
def CE(m:AC)(l:List EvM):List CK:=BJ m l l.length
theorem D8 (m:AC) (l:List EvM) {i:Nat} (hi:i<l.length):BJ m l (i+1)=BJ m l i++if Ah m l[i] then Cu m (AX m l (i+1)) i m.uT.length else []:=by
 unfold BJ
 rw[List.range_succ,List.flatMap_append]
 simp[J8,hi]
theorem RX (m:AC) (p:AA) (i k:Nat) (r:AR):(GG m p i k r).length≤1:=by
 unfold GG;split <;> simp
theorem Fs (m:AC) (p:AA) (i:Nat):∀ n,(Cu m p i n).length≤n
 | 0=>by simp[Cu]
 | n+1=>by
   have ih:=Fs m p i n
   unfold Cu at ih ⊢
   rw[List.range_succ,List.flatMap_append,List.length_append]
   have:(List.flatMap (fun k=>match m.uT[k]? with|some r=>GG m p i k r|none=>[]) [n]).length≤1:=by
    simp only[List.flatMap_cons,List.flatMap_nil,List.append_nil]
    split
    · exact RX m p i n _
    · simp
   omega
theorem Dp (m:AC) (l:List EvM):∀ n,(BJ m l n).length≤n*m.uT.length
 | 0=>by simp[BJ]
 | n + 1=>by
   have ih:=Dp m l n
   unfold BJ at ih ⊢
   rw[List.range_succ,List.flatMap_append,List.length_append]
   have:(List.flatMap (J8 m l) [n]).length≤m.uT.length:=by
    simp only[List.flatMap_cons,List.flatMap_nil,List.append_nil]
    unfold J8
    split
    · split
      · exact Fs m _ _ _
      · simp
    · simp
   rw[Nat.succ_mul]
   omega
theorem Ox {m:AC} (hv:Ab m=true) {r:AR} (hr:r∈m.uT):Aj m r=true:=by
 simp only[Ab,Bool.and_eq_true,List.all_eq_true] at hv
 exact hv.1.2 r hr
theorem Ow {m:AC} (hv:Ab m=true) {x:Bc} (hx:x∈m.iT):BM m x=true:=by
 simp only[Ab,Bool.and_eq_true,List.all_eq_true] at hv
 exact hv.1.1.2 x hx
theorem KW {m:AC} (hv:Ab m=true) {x:Bc} (hx:x∈m.iT):x.kind=0∨x.kind=1∨x.kind=2:=by
 have h:=Ow hv hx
 simp only[BM,Bool.and_eq_true] at h
 have h:=h.2
 unfold Bg at h
 by_cases h0:x.kind=0
 · exact .inl h0
 by_cases h1:x.kind=1
 · exact .inr (.inl h1)
 by_cases h2:x.kind=2
 · exact .inr (.inr h2)
 rw[if_neg h0,if_neg h1,if_neg h2] at h
 cases h
theorem Dh {m:AC} (hv:Ab m=true):m.iT.length≤8∧m.uT.length≤40∧m.mT.length≤16∧m.rT.length≤16∧m.fT.length≤16∧m.sT.length≤4:=by
 simp only[Ab,Bd,AP,Bool.and_eq_true,decide_eq_true_eq] at hv
 omega
theorem Mv {nm:Nat} {l:List Int} (h:EP nm l=true):l.length≤nm:=by
 simp only[EP,Bool.and_eq_true,decide_eq_true_eq,AP] at h
 obtain⟨_,h⟩:=h
 have key:∀ i (hi:i<l.length),(i:Int)+1≤l[i]:=by
  intro i
  induction i with
  | zero=>intro hi;have:=(h 0 hi).1.1;omega
  | succ i ih =>
    intro hi
    have h1:=ih (by omega)
    have h2:=(h (i+1) hi).2 (by omega)
    rw[Nat.add_sub_cancel,List.getD_eq_getElem?_getD,List.getElem?_eq_getElem (by omega),Option.getD_some] at h2
    omega
 rcases Nat.eq_zero_or_pos l.length with h0|h0
 · omega
 · have h1:=key (l.length - 1) (by omega)
   have h2:=(h (l.length - 1) (by omega)).1.2
   omega
theorem FI {m:AC} (hv:Ab m=true) {x:Bc} (hx:x∈m.iT):x.on.length≤16:=by
 have h:=Ow hv hx
 simp only[BM,Bool.and_eq_true] at h
 have:=Mv h.1.1.1.1
 have:=(Dh hv).2.2.1
 omega
theorem RG {m:AC} {r:AR} (h:Aj m r=true) (hk:r.kind=0∨r.kind=1∨r.kind=2∨r.kind=3):1≤r.item∧r.item≤m.iT.length:=by
 unfold Aj at h
 rcases hk with hk|hk|hk|hk <;> simp[hk,AP] at h <;> omega
theorem L6 {m:AC} {r:AR} (h:Aj m r=true):r.machines.length≤m.mT.length:=by
 unfold Aj at h
 repeat' split at h
 all_goals first
  | (simp only[Bool.and_eq_true] at h;exact Mv h.1.1.1.1.2)
  | (simp only[DZ,Bool.and_eq_true,decide_eq_true_eq] at h;omega)
  | cases h
end Go.Proofs.YtfemlajeomohhaaGreatDoor
namespace Go.Proofs.YtfemlajeomohhaaGreatDoor
open Go Go.RowKit Go.Proofs
def FW:AC:=⟨[(⟨#[97]⟩:ByteArray)],[(⟨#[102]⟩:ByteArray)],[⟨(⟨#[114]⟩:ByteArray),1,1⟩],[⟨(⟨#[109]⟩:ByteArray),1,0⟩,⟨(⟨#[110]⟩:ByteArray),1,0⟩,⟨(⟨#[111]⟩:ByteArray),1,0⟩],[],[⟨(⟨#[103]⟩:ByteArray),0,3,0,0,1,[1,2,3]⟩],1,1,0,0,[⟨1,1,0,3,0,true,[]⟩]⟩
def KC:EvM:=⟨2,0,1,[1,2],0,0,false,0⟩
def Sg(b:Nat):EvJ:=⟨0,0,0,⟨#[]⟩,0,0,0,false,0,some ⟨b,0,none⟩,2,none,0,0,none,0,0,0,0,0⟩
theorem Rk:Ab FW=true:=by decide +kernel
theorem Qk:Ay FW [KC]=[[[(1,0),(2,0),(3,0)]],[[(1,0),(2,0)]]]:=by decide +kernel
theorem Qj:CE FW [KC]=[(0,1,1,1)]:=by decide +kernel
theorem TK:BV [KC]<0:=by decide +kernel
theorem Reads.ofBlk {w:World} {B g n size:Nat} {t:TypeId} {cs:Array Value} (h:AB w g t cs) (hB:g<B) (hn:cs.size=n*size):Reads w B size (some ⟨g,0,none⟩) n cs.toList :=
 ⟨by simpa using hn,fun _=>⟨_,rfl,hB,fun j u hu=>by
   rw[BA,Nat.zero_add,h.cell j];simpa using hu⟩⟩
def Oq(n:Nat):MH:=⟨some ⟨n+1,0,none⟩,1,some ⟨n+1+1,0,none⟩,1,some ⟨n+1+1+1,0,none⟩,1,some ⟨n+1+1+1+1,0,none⟩,3,none,0,some ⟨n+1+1+1+1+1+1,0,none⟩,1,some ⟨n+1+1+1+1+1+1+1,0,none⟩,1⟩
def cellsOf(h:MH)(m:AC):Array Value:=#[.slice h.s m.sT.length h.sc,.slice h.f m.fT.length h.fc,.slice h.r m.rT.length h.rc,.slice h.m m.mT.length h.mc,.slice h.l m.lT.length h.lc,.slice h.i m.iT.length h.ic,.int .i64 m.dT,.int .i64 m.oT,.int .i64 m.vT,.int .i64 m.aT,.slice h.u m.uT.length h.uc]
def TJ(x:EvM)(j:EvJ):Array Value:=#[.int .i64 x.kind,.int .i64 x.mach,.int .i64 j.v2,.int .i64 j.v3,.int .i64 x.group,.int .i64 j.v5,.string j.v6,.int .i64 j.v7,.int .i64 j.v8,.int .i64 j.v9,.bool j.v10,.int .i64 j.v11,.slice j.A x.old.length j.c,.slice j.A13 j.n13 j.c13,.slice j.A14 j.n14 j.c14,.int .i64 x.hitem,.int .i64 j.v16,.int .i64 x.hstate,.int .i64 j.v18,.int .i64 j.v19,.bool x.gone,.int .i64 x.outcome]
structure Tj (w W:World):Prop where
 b0:AB W w.heap.size 29 (cellsOf (Oq w.heap.size) FW)
 b1:AB W (w.heap.size+1) 9 #[.string (⟨#[97]⟩:ByteArray)]
 b2:AB W (w.heap.size+1+1) 9 #[.string (⟨#[102]⟩:ByteArray)]
 b3:AB W (w.heap.size+1+1+1) 44 #[.string (⟨#[114]⟩:ByteArray),.int .i64 1,.int .i64 1]
 b4:AB W (w.heap.size+1+1+1+1) 46 #[.string (⟨#[109]⟩:ByteArray),.int .i64 1,.int .i64 0,.string (⟨#[110]⟩:ByteArray),.int .i64 1,.int .i64 0,.string (⟨#[111]⟩:ByteArray),.int .i64 1,.int .i64 0]
 b5:AB W (w.heap.size+1+1+1+1+1) 3 #[.int .i64 1,.int .i64 2,.int .i64 3]
 b6:AB W (w.heap.size+1+1+1+1+1+1) 49 #[.string (⟨#[103]⟩:ByteArray),.int .i64 0,.int .i64 3,.int .i64 0,.int .i64 0,.int .i64 1,.slice (some ⟨w.heap.size+1+1+1+1+1,0,none⟩) 3 3]
 b7:AB W (w.heap.size+1+1+1+1+1+1+1) 51 #[.int .i64 1,.int .i64 1,.int .i64 0,.int .i64 3,.int .i64 0,.bool true,.slice none 0 0]
 b9:AB W (w.heap.size+1+1+1+1+1+1+1+1+1) 3 #[.int .i64 1,.int .i64 2]
 b10:AB W (w.heap.size+1+1+1+1+1+1+1+1+1+1) 85 (TJ KC (Sg (w.heap.size+1+1+1+1+1+1+1+1+1)))
 bb:Below w.heap.size w W
theorem RV(w:World)(t:TypeId)(cs:Array Value){g:Nat}(h:g=w.heap.size):AB (w.alloc (.cells cs t)) g t cs:=by subst h;exact AB.new w t cs
theorem MI {α:Type} {E:Gv α} {k:Nat} {w:World} {B g:Nat} {t:TypeId} {cs:Array Value} {x:α} (h:AB w g t cs) (hB:g<B) (hk:cs.size=k) (hE:E.R w B x cs.toList):Rows E k w B (some ⟨g,0,none⟩) [x]:=by
 intro i hi
 obtain rfl:i=0:=by simp at hi;omega
 exact⟨g,0,cs.toList,rfl,hB,by simpa using hk,hE,fun j u hu=>by simp only[Nat.zero_mul,Nat.zero_add];rw[h.cell j];simpa using hu⟩
theorem U9 {w W:World} (x:Tj w W):MD W W.heap.size (Oq w.heap.size) FW where
 dS:=Reads.ofBlk x.b1 x.b1.lt rfl
 dF:=Reads.ofBlk x.b2 x.b2.lt rfl
 dR:=MI x.b3 x.b3.lt rfl ⟨rfl,by decide⟩
 dM := fun i hi=>by
  have h4:=x.b4
  have hc:∀ j u,(#[Value.string (⟨#[109]⟩:ByteArray),.int .i64 1,.int .i64 0,.string (⟨#[110]⟩:ByteArray),.int .i64 1,.int .i64 0,.string (⟨#[111]⟩:ByteArray),.int .i64 1,.int .i64 0]:Array Value)[j]? = some u→W.cell? ⟨w.heap.size+1+1+1+1,j,none⟩=some u:=fun j u hu=>by rw[h4.cell j];exact hu
  have hi3:i<3:=hi
  refine⟨w.heap.size+1+1+1+1,0,_,rfl,h4.lt,?_,⟨rfl,?_⟩,fun j u hu=>hc _ _ ?_⟩
  · rfl
  · rcases i with _|_|_|i
    · show((⟨#[109]⟩:ByteArray):ByteArray).size≤9223372036854775807
      decide
    · show((⟨#[110]⟩:ByteArray):ByteArray).size≤9223372036854775807
      decide
    · show((⟨#[111]⟩:ByteArray):ByteArray).size≤9223372036854775807
      decide
    · omega
  · rcases i with _|_|_|i
    all_goals (rcases j with _|_|_|j)
    all_goals (first|(exfalso;omega)|(simp at hu;done)|(simpa[FW] using hu))
 dL:=Rows.nil_
 dI:=MI x.b6 x.b6.lt rfl ⟨_,3,rfl,by decide,by decide,by decide,Reads.ofBlk x.b5 x.b5.lt rfl⟩
 dU:=MI x.b7 x.b7.lt rfl ⟨_,0,rfl,by decide,by decide,Reads.none_⟩
 sl:=by decide
 fl:=by decide
 rl:=by decide
 ml:=by decide
 ll:=by decide
 il:=by decide
 ul:=by decide
 sf:=by decide
 ff:=by decide
theorem U8 {w W:World} (x:Tj w W):Rows BD 22 W W.heap.size (some ⟨w.heap.size+1+1+1+1+1+1+1+1+1+1,0,none⟩) [KC] :=
 MI x.b10 x.b10.lt rfl ⟨Sg _,rfl,by simp[KC,Sg],by simp[Sg],Reads.ofBlk x.b9 x.b9.lt rfl⟩
def Uy(w:World)(e:Ending)(w':World):Prop:=∃ h A c,e=.returned (.tuple #[.agg (cellsOf h FW),.slice A 1 c])∧MD w' w'.heap.size h FW∧Rows BD 22 w' w'.heap.size A [KC]∧FW.rT.length≤h.rc∧FW.mT.length≤h.mc∧FW.lT.length≤h.lc∧Below w.heap.size w w'
theorem Tx {w W:World} {T:Array Value} (x:Tj w W) (h0:T.getD 0 undef=.pointer (some ⟨w.heap.size,0,none⟩)) (h1:T.getD 1 undef=.slice (some ⟨w.heap.size+1+1+1+1+1+1+1+1+1+1,0,none⟩) 1 1) :
    bodyPost Tryz.prog Tryz.f15 (Uy w) Exit.ret { tmps:=T,defers:=[] } W:=by
 refine bodyPost_ret (v:=.tuple #[.agg (cellsOf (Oq w.heap.size) FW),.slice (some ⟨w.heap.size+1+1+1+1+1+1+1+1+1+1,0,none⟩) 1 1]) (w:=W) ?_ rfl ⟨Oq w.heap.size,_,1,rfl,U9 x,U8 x,by simp[FW,Oq],by simp[FW,Oq],by simp[FW],x.bb⟩
 rw[results_cell_tmp rfl]
 dsimp only
 rw[h0,h1]
 have hl:=run_loadVar_row (P:=Tryz.prog) W w.heap.size 29 29 _ (0,0) _ x.b0 Tryz.underlying29 rfl (by kernel_rfl)
 have ha:(asAddr (.pointer (some ⟨w.heap.size,0,none⟩))).run Tryz.prog W=.ok ⟨w.heap.size,0,none⟩ W:=rfl
 rw[ha]
 simp only[Result.andThen]
 rw[hl]
theorem Ql (w:World):Calls Tryz.prog 15 #[] w (Uy w):=by
 go_enter Tryz.func15,Tryz.ntmps15
 go_wp2_with fail
 refine Tx ⟨?_,?_,?_,?_,?_,?_,?_,?_,?_,?_,?_⟩ rfl rfl
 all_goals (try (repeat (first|(refine RV _ _ _ ?_;(simp;done))|(with_reducible refine AB.alloc ?_ _)|exact Below.refl _ _|(with_reducible refine Below.alloc ?_ (by simp <;> omega) _))))
theorem Aq (n l:Int) (w:World):Calls Tryz.prog 73 #[.int .i64 n,.int .i64 l] w fun e w'=>e=.returned (.bool (AP n l))∧w=w':=by
 by_cases h1:1≤n <;> by_cases h2:n≤l
 all_goals
  have hL:AP n l=(decide (1≤n) && decide (n≤l)):=rfl
  have HL:=hide hL;clear hL
  go_enter Tryz.func73,Tryz.ntmps73
  go_wp2
  go_ret
  exact⟨AJ (by rw[HL.out];simp[*]),rfl⟩
theorem JS (n:Int) (w:World):Calls Tryz.prog 98 #[.int .i64 n] w fun e w'=>e=.returned (.bool (Au n 0 1048576))∧w=w':=by
 by_cases h1:0≤n <;> by_cases h2:n≤1048576
 all_goals
  have hL:Au n 0 1048576=(decide (0≤n) && decide (n≤1048576)):=rfl
  have HL:=hide hL;clear hL
  go_enter Tryz.func98,Tryz.ntmps98
  go_wp2
  go_ret
  exact⟨AJ (by rw[HL.out];simp[*]),rfl⟩
theorem Pj (x y:CQ) (bx:Nat) (W:World) (hX:AB W bx 44 #[.string x.name,.int .i64 x.site,.int .i64 x.feed]) :
    Calls Tryz.prog 94 #[.agg #[.string y.name,.int .i64 y.site,.int .i64 y.feed],.pointer (some ⟨bx,0,none⟩)] W fun e w'=>e=.returned (.bool (decide (y.feed=x.feed) && decide (y.site≠x.site)))∧Below W.heap.size W w':=by
 have x1:=hX.cell 1
 have x2:=hX.cell 2
 have hlt:=hX.lt
 simp at x1 x2
 by_cases f1:y.feed=x.feed
 · have g1:(y.feed == x.feed)=true:=by simpa using f1
   by_cases f2:y.site=x.site
   · have g2:(y.site != x.site)=false:=by simpa using f2
     have HV:=hide (show(decide (y.feed=x.feed) && decide (y.site≠x.site))=false by simp[f2])
     clear f1 f2
     go_enter Tryz.func94,Tryz.ntmps94
     go_wp2_with fail
     go_ret
     exact⟨AJ (by rw[HV.out];rfl),(Below.refl _ _).alloc (Nat.le_refl _) _⟩
   · have g2:(y.site != x.site)=true:=by simpa using f2
     have HV:=hide (show(decide (y.feed=x.feed) && decide (y.site≠x.site))=true by simp[f1,f2])
     clear f1 f2
     go_enter Tryz.func94,Tryz.ntmps94
     go_wp2_with fail
     go_ret
     exact⟨AJ (by rw[HV.out];rfl),(Below.refl _ _).alloc (Nat.le_refl _) _⟩
 · have g1:(y.feed == x.feed)=false:=by simpa using f1
   have HV:=hide (show(decide (y.feed=x.feed) && decide (y.site≠x.site))=false by simp[f1])
   clear f1
   go_enter Tryz.func94,Tryz.ntmps94
   go_wp2_with fail
   go_ret
   exact⟨AJ (by rw[HV.out];rfl),(Below.refl _ _).alloc (Nat.le_refl _) _⟩
theorem Qy (x y:Co) (bx:Nat) (W:World) (hX:AB W bx 130 #[.int .i64 x.a,.int .i64 x.b,.int .i64 x.cap]) :
    Calls Tryz.prog 101 #[.agg #[.int .i64 y.a,.int .i64 y.b,.int .i64 y.cap],.pointer (some ⟨bx,0,none⟩)] W fun e w'=>e=.returned (.bool (decide (y.a=x.a) && decide (y.b=x.b)))∧Below W.heap.size W w':=by
 have x1:=hX.cell 0
 have x2:=hX.cell 1
 have hlt:=hX.lt
 simp at x1 x2
 by_cases f1:y.a=x.a
 · have g1:(y.a == x.a)=true:=by simpa using f1
   by_cases f2:y.b=x.b
   · have g2:(y.b == x.b)=true:=by simpa using f2
     have HV:=hide (show(decide (y.a=x.a) && decide (y.b=x.b))=true by simp[f1,f2])
     clear f1 f2
     go_enter Tryz.func101,Tryz.ntmps101
     go_wp2_with fail
     go_ret
     exact⟨AJ (by rw[HV.out];rfl),(Below.refl _ _).alloc (Nat.le_refl _) _⟩
   · have g2:(y.b == x.b)=false:=by simpa using f2
     have HV:=hide (show(decide (y.a=x.a) && decide (y.b=x.b))=false by simp[f2])
     clear f1 f2
     go_enter Tryz.func101,Tryz.ntmps101
     go_wp2_with fail
     go_ret
     exact⟨AJ (by rw[HV.out];rfl),(Below.refl _ _).alloc (Nat.le_refl _) _⟩
 · have g1:(y.a == x.a)=false:=by simpa using f1
   have HV:=hide (show(decide (y.a=x.a) && decide (y.b=x.b))=false by simp[f1])
   clear f1
   go_enter Tryz.func101,Tryz.ntmps101
   go_wp2_with fail
   go_ret
   exact⟨AJ (by rw[HV.out];rfl),(Below.refl _ _).alloc (Nat.le_refl _) _⟩
theorem Te (h:MH) (m:AC) (x:CQ) (A:Option Addr) (i c:Nat) (pre:List CQ) (hi:pre.length=i) (hli:i≤9223372036854775807) (bm:Nat) (W:World) (hM:AB W bm 29 #[.slice h.s m.sT.length h.sc,.slice h.f m.fT.length h.fc,.slice h.r m.rT.length h.rc,.slice h.m m.mT.length h.mc,.slice h.l m.lT.length h.lc,.slice h.i m.iT.length h.ic,.int .i64 m.dT,.int .i64 m.oT,.int .i64 m.vT,.int .i64 m.aT,.slice h.u m.uT.length h.uc]) (hP:Rows Ec 3 W W.heap.size A pre) (_l0:m.sT.length≤9223372036854775807) (_l1:m.fT.length≤9223372036854775807) :
    Calls Tryz.prog 93 #[.agg #[.string x.name,.int .i64 x.site,.int .i64 x.feed],.slice A i c,.pointer (some ⟨bm,0,none⟩)] W fun e w'=>e=.returned (.bool (Cj m x pre))∧Below W.heap.size W w':=by
 subst hi
 obtain⟨c0,c1,c2,c3,c4,c5,c6,c7,c8,c9,c10⟩:=MB.cells hM
 clear c2 c3 c4 c5 c6 c7 c8 c9 c10
 have hlt:=hM.lt
 have hBW:=(Below.refl W.heap.size W).alloc (Nat.le_refl _) (.cells #[.string x.name,.int .i64 x.site,.int .i64 x.feed] 44)
 have HX:=hide (AB.new W 44 #[.string x.name,.int .i64 x.site,.int .i64 x.feed])
 have HC:=hide (JN 94 #[.pointer (some ⟨W.heap.size,0,none⟩)] (fun _ _=>by kernel_rfl) (fun y=>decide (y.feed=x.feed) && decide (y.site≠x.site)) A c pre _ hli (hP.grow hBW) (fun j hj W' hW'=>Pj x pre[j] _ W' (HX.out.below hW' (by simp))))
 have HB:=hide hBW
 have hR:=show Cj m x pre=(AP x.site m.sT.length && AP x.feed m.fT.length && !pre.any fun y=>decide (y.feed=x.feed) && decide (y.site≠x.site)) from rfl
 have HR:=hide hR
 clear hBW hP hM hR
 generalize (pre.any fun y=>decide (y.feed=x.feed) && decide (y.site≠x.site))=q at HC HR
 cases e1:AP x.site m.sT.length <;> cases e2:AP x.feed m.fT.length
 all_goals
  go_enter Tryz.func93,Tryz.ntmps93
  go_wp2_with (first
   | (go_at_call 73;refine(Aq _ _ _).mono ?_;rintro e w' ⟨rfl,rfl⟩)
   | (go_at_call 95;refine HC.out.mono ?_;rintro e w1 ⟨rfl,hb1⟩))
  go_ret
  exact⟨AJ (by rw[HR.out];simp[*]),by first|exact HB.out.trans (hb1.mono HB.out.size)|exact HB.out⟩
theorem TU (h:MH) (m:AC) (x:Fq) (A:Option Addr) (i c:Nat) (bm:Nat) (W:World) (hM:AB W bm 29 #[.slice h.s m.sT.length h.sc,.slice h.f m.fT.length h.fc,.slice h.r m.rT.length h.rc,.slice h.m m.mT.length h.mc,.slice h.l m.lT.length h.lc,.slice h.i m.iT.length h.ic,.int .i64 m.dT,.int .i64 m.oT,.int .i64 m.vT,.int .i64 m.aT,.slice h.u m.uT.length h.uc]) (_l0:m.rT.length≤9223372036854775807) :
    Calls Tryz.prog 97 #[.agg #[.string x.name,.int .i64 x.rack,.int .i64 x.cap],.slice A i c,.pointer (some ⟨bm,0,none⟩)] W fun e w'=>e=.returned (.bool (Dz m x))∧Below W.heap.size W w':=by
 obtain⟨c0,c1,c2,c3,c4,c5,c6,c7,c8,c9,c10⟩:=MB.cells hM
 clear c0 c1 c3 c4 c5 c6 c7 c8 c9 c10
 have hlt:=hM.lt
 have HB:=hide ((Below.refl W.heap.size W).alloc (Nat.le_refl _) (.cells #[.string x.name,.int .i64 x.rack,.int .i64 x.cap] 46))
 have HR:=hide (show Dz m x=(AP x.rack m.rT.length && Au x.cap 0 1048576) from rfl)
 clear hM
 cases e1:AP x.rack m.rT.length <;> cases e2:Au x.cap 0 1048576
 all_goals
  go_enter Tryz.func97,Tryz.ntmps97
  go_wp2_with (first
   | (go_at_call 73;refine(Aq _ _ _).mono ?_;rintro e w' ⟨rfl,rfl⟩)
   | (go_at_call 98;refine(JS _ _).mono ?_;rintro e w' ⟨rfl,rfl⟩))
  go_ret
  exact⟨AJ (by rw[HR.out];simp[*]),HB.out⟩
theorem TS (h:MH) (m:AC) (x:Co) (A:Option Addr) (i c:Nat) (pre:List Co) (hi:pre.length=i) (hli:i≤9223372036854775807) (bm:Nat) (W:World) (hM:AB W bm 29 #[.slice h.s m.sT.length h.sc,.slice h.f m.fT.length h.fc,.slice h.r m.rT.length h.rc,.slice h.m m.mT.length h.mc,.slice h.l m.lT.length h.lc,.slice h.i m.iT.length h.ic,.int .i64 m.dT,.int .i64 m.oT,.int .i64 m.vT,.int .i64 m.aT,.slice h.u m.uT.length h.uc]) (hP:Rows Eb 3 W W.heap.size A pre) (_l0:m.sT.length≤9223372036854775807) :
    Calls Tryz.prog 100 #[.agg #[.int .i64 x.a,.int .i64 x.b,.int .i64 x.cap],.slice A i c,.pointer (some ⟨bm,0,none⟩)] W fun e w'=>e=.returned (.bool (Bp m x pre))∧Below W.heap.size W w':=by
 subst hi
 obtain⟨c0,c1,c2,c3,c4,c5,c6,c7,c8,c9,c10⟩:=MB.cells hM
 clear c1 c2 c3 c4 c5 c6 c7 c8 c9 c10
 have hlt:=hM.lt
 have hBW:=(Below.refl W.heap.size W).alloc (Nat.le_refl _) (.cells #[.int .i64 x.a,.int .i64 x.b,.int .i64 x.cap] 130)
 have HX:=hide (AB.new W 130 #[.int .i64 x.a,.int .i64 x.b,.int .i64 x.cap])
 have HC:=hide (JM 101 #[.pointer (some ⟨W.heap.size,0,none⟩)] (fun _ _=>by kernel_rfl) (fun y=>decide (y.a=x.a) && decide (y.b=x.b)) A c pre _ hli (hP.grow hBW) (fun j hj W' hW'=>Qy x pre[j] _ W' (HX.out.below hW' (by simp))))
 have HB:=hide hBW
 have HR:=hide (show Bp m x pre=(decide (1≤x.a) && decide (x.a<x.b) && decide (x.b≤m.sT.length) && Au x.cap 0 1048576 && !pre.any fun y=>decide (y.a=x.a) && decide (y.b=x.b)) from rfl)
 clear hBW hP hM
 generalize (pre.any fun y=>decide (y.a=x.a) && decide (y.b=x.b))=q at HC HR
 by_cases e1:1≤x.a
 · by_cases e2:x.a<x.b
   · by_cases e3:x.b≤(m.sT.length:Int)
     · cases e4:Au x.cap 0 1048576
       all_goals
        go_enter Tryz.func100,Tryz.ntmps100
        go_wp2_with (first
         | (go_at_call 98;refine(JS _ _).mono ?_;rintro e w' ⟨rfl,rfl⟩)
         | (go_at_call 102;refine HC.out.mono ?_;rintro e w1 ⟨rfl,hb1⟩))
        go_ret
        exact⟨AJ (by rw[HR.out];simp[*]),by first|exact HB.out.trans (hb1.mono HB.out.size)|exact HB.out⟩
     · go_enter Tryz.func100,Tryz.ntmps100
       go_wp2_with fail
       go_ret
       exact⟨AJ (by rw[HR.out];simp;omega),HB.out⟩
   · go_enter Tryz.func100,Tryz.ntmps100
     go_wp2_with fail
     go_ret
     exact⟨AJ (by rw[HR.out];simp;omega),HB.out⟩
 · go_enter Tryz.func100,Tryz.ntmps100
   go_wp2_with fail
   go_ret
   exact⟨AJ (by rw[HR.out];simp;omega),HB.out⟩
theorem P9 {α:Type} (p:α→Bool) (l:List α):Bq (fun x _=>p x) l=l.all p:=by
 rw[Bool.eq_iff_iff,KR,List.all_eq_true]
 exact⟨fun h x hx=>by obtain⟨j,hj,rfl⟩:=List.getElem_of_mem hx;exact h j hj,fun h i hi=>h _ (List.getElem_mem _)⟩
theorem NI(m:AC):C8 m=(AP m.sT.length 4 && decide (m.fT.length≤16) && decide (m.rT.length≤16) && AP m.mT.length 16 && decide (m.lT.length≤12)):=rfl
theorem Bn (h:MH) (m:AC) (w:World) (d:MD w w.heap.size h m) (k1:m.rT.length≤h.rc) (k2:m.mT.length≤h.mc) (k3:m.lT.length≤h.lc) :
    Calls Tryz.prog 51 #[.agg #[.slice h.s m.sT.length h.sc,.slice h.f m.fT.length h.fc,.slice h.r m.rT.length h.rc,.slice h.m m.mT.length h.mc,.slice h.l m.lT.length h.lc,.slice h.i m.iT.length h.ic,.int .i64 m.dT,.int .i64 m.oT,.int .i64 m.vT,.int .i64 m.aT,.slice h.u m.uT.length h.uc]] w fun e w'=>e=.returned (.bool (Bd m))∧Below w.heap.size w w':=by
 have l0:=d.sl
 have l1:=d.fl
 have l2:=d.rl
 have l3:=d.ml
 have l4:=d.ll
 cases hsz:C8 m
 · have HV:=hide (Jh hsz)
   have HZ:=hide hsz
   clear hsz d
   cases e1:AP m.sT.length 4
   · go_enter Tryz.func51,Tryz.ntmps51
     go_wp2_with (go_at_call 73;refine(Aq _ _ _).mono ?_;rintro e w' ⟨rfl,rfl⟩)
     go_ret
     exact⟨AJ (by rw[HV.out];rfl),(Below.refl _ _).alloc (Nat.le_refl _) _⟩
   · cases e2:AP m.mT.length 16
     · go_enter Tryz.func51,Tryz.ntmps51
       go_wp2_with (go_at_call 73;refine(Aq _ _ _).mono ?_;rintro e w' ⟨rfl,rfl⟩)
       all_goals
        go_ret
        exact⟨AJ (by rw[HV.out];rfl),(Below.refl _ _).alloc (Nat.le_refl _) _⟩
     · have hbad:16<m.fT.length∨16<m.rT.length∨12<m.lT.length:=by
         have:=HZ.out
         rw[NI,e1,e2] at this
         simp at this
         omega
       rcases hbad with q|q|q
       all_goals
        go_enter Tryz.func51,Tryz.ntmps51
        go_wp2_with (go_at_call 73;refine(Aq _ _ _).mono ?_;rintro e w' ⟨rfl,rfl⟩)
        all_goals
         go_ret
         exact⟨AJ (by rw[HV.out];rfl),(Below.refl _ _).alloc (Nat.le_refl _) _⟩
 · have HS:=hide (KP hsz)
   obtain⟨q1,q2,q3,q4,q5,q6,q7⟩:=JB hsz
   have e1:AP m.sT.length 4=true:=by simp[AP];omega
   have e2:AP m.mT.length 16=true:=by simp[AP];omega
   clear hsz
   have hW0:=MW.start w h m
   have D:=hide d;clear d
   have H1:=hide fun(W:World) (hW:MW w w.heap.size W h m)=>QB 93 #[.pointer (some ⟨w.heap.size,0,none⟩)] (fun _ _=>by kernel_rfl) (Cj m) h.r h.rc m.rT W l2 k1 (hW.md D.out).dR (fun i hi W' hW'=>Te h m m.rT[i] h.r i h.rc (m.rT.take i) (by simp;omega) (by omega) w.heap.size W' (hW.grow hW').blk (((hW.grow hW').md D.out).dR.take_ i) l0 l1)
   have H2:=hide fun(W:World) (hW:MW w w.heap.size W h m)=>MC 97 #[.pointer (some ⟨w.heap.size,0,none⟩)] (fun _ _=>by kernel_rfl) (fun x _=>Dz m x) h.m h.mc m.mT W l3 k2 (hW.md D.out).dM (fun i hi W' hW'=>TU h m m.mT[i] h.m i h.mc w.heap.size W' (hW.grow hW').blk l2)
   have H3:=hide fun(W:World) (hW:MW w w.heap.size W h m)=>QA 100 #[.pointer (some ⟨w.heap.size,0,none⟩)] (fun _ _=>by kernel_rfl) (Bp m) h.l h.lc m.lT W l4 k3 (hW.md D.out).dL (fun i hi W' hW'=>TS h m m.lT[i] h.l i h.lc (m.lT.take i) (by simp;omega) (by omega) w.heap.size W' (hW.grow hW').blk (((hW.grow hW').md D.out).dL.take_ i) l0)
   rw[P9] at H2
   have HW0:=hide hW0
   clear hW0
   cases b1:Bq (Cj m) m.rT <;> cases b2:m.mT.all (Dz m) <;> cases b3:Bq (Bp m) m.lT
   all_goals
    rw[b1] at H1
    rw[b2] at H2
    rw[b3] at H3
    rw[b1,b2,b3] at HS
    clear b1 b2 b3
    go_enter Tryz.func51,Tryz.ntmps51
    go_wp2_with (first
     | (go_at_call 73;refine(Aq _ _ _).mono ?_;rintro e w' ⟨rfl,rfl⟩)
     | (go_at_call 92;refine(H1.out _ HW0.out).mono ?_;rintro e w1 ⟨rfl,hb1⟩;have hW1:=HW0.out.grow hb1;obtain⟨a0,a1,a2,a3,a4,a5,a6,a7,a8,a9,a10⟩:=MB.cells hW1.blk;have ha:=hW1.lt;clear a0 a1 a2 a5 a6 a7 a8 a9 a10 hb1)
     | (go_at_call 96;refine(H2.out _ hW1).mono ?_;rintro e w2 ⟨rfl,hb2⟩;have hW2:=hW1.grow hb2;obtain⟨d0,d1,d2,d3,d4,d5,d6,d7,d8,d9,d10⟩:=MB.cells hW2.blk;have hd:=hW2.lt;clear d0 d1 d2 d3 d5 d6 d7 d8 d9 d10 hb2)
     | (go_at_call 99;refine(H3.out _ hW2).mono ?_;rintro e w3 ⟨rfl,hb3⟩;have hW3:=hW2.grow hb3))
    go_ret
    exact⟨AJ (by rw[HS.out];rfl),hW3.b⟩
end Go.Proofs.YtfemlajeomohhaaGreatDoor
