/- A part of the claim: see its last text. -/
import Derived.RangeFuncNested
import Derived.RangeFuncBound
import Derived.RangeFuncCalls
import Derived.RangeFuncLeaves
import Derived.RangeFuncBox
import Derived.Shelf.Abstract
import Derived.Shelf.RegionOpen
import Derived.OwnWalkIn
import Derived.TacticsInMore
import Derived.LoopNIn
import Derived.LoopIn
import Derived.Test.YtfemlajeomohhaaGreatDoorUK14

set_option maxRecDepth 100000
set_option maxHeartbeats 16000000
namespace Go.Proofs.YtfemlajeomohhaaGreatDoor
open Go Go.RowKit Go.Proofs Go.Shelf
attribute [local go_sem] Oper.semAt_some
def GD(m:AC)(i:Nat):Bool:=decide ((m.aT / 2 ^ i) % 2=1)
def D9(m:AC)(i n:Nat):List (Int×Int):=if GD m i then(List.range n).map fun(j:Nat)=>((i:Int)+1,(j:Int)+1) else []
def Mc(m:AC)(i:Nat):List (Int×Int):=D9 m i (AZ m ((i:Int)+1)).toNat
def CW(m:AC)(i n:Nat):List (Int×Int):=(0,0) :: ((List.range i).flatMap (Mc m)++D9 m i n)
theorem I9 (m:AC) (i:Nat):CW m i (AZ m ((i:Int)+1)).toNat=CW m (i+1) 0:=by
 unfold CW
 rw[List.range_succ,List.flatMap_append]
 have:D9 m (i+1) 0=[]:=by unfold D9;split <;> rfl
 rw[this]
 simp[Mc]
theorem ND (m:AC) (i n:Nat) (h:GD m i=true):CW m i (n+1)=CW m i n ++ [((i:Int)+1,(n:Int)+1)]:=by
 unfold CW D9
 rw[if_pos h,if_pos h,List.range_succ,List.map_append]
 simp
theorem Tc (m:AC) (i n:Nat) (h:GD m i=false):CW m i (n+1)=CW m i n:=by
 unfold CW D9
 simp[h]
theorem NB (m:AC):CW m 3 0=EW m:=by
 have h0:∀ i,D9 m i 0=[]:=fun i=>by unfold D9;split <;> rfl
 unfold CW EW
 rw[h0,show List.range 3=[0,1,2] from rfl]
 simp[Mc,D9,JH,GD]
theorem LZ (m:AC):CW m 0 0=[(0,0)]:=by
 have:D9 m 0 0=[]:=by unfold D9;split <;> rfl
 simp[CW,this]
theorem NC (m:AC) (B:Nat) (hd:∀ i,(AZ m i).toNat≤B) (i n:Nat) (hi:i≤3) (hn:n≤B):(CW m i n).length≤1+3*B+B:=by
 have hp:∀ i n,(D9 m i n).length≤n:=fun i n=>by unfold D9;split <;> simp
 have hc:∀ i,(Mc m i).length≤B:=fun i=>Nat.le_trans (hp _ _) (hd _)
 have hf:∀ i,((List.range i).flatMap (Mc m)).length≤i*B:=fun i=>by
  induction i with
  | zero=>simp
  | succ i ih =>
    rw[List.range_succ,List.flatMap_append,List.length_append,Nat.succ_mul]
    have:=hc i
    simp only[List.flatMap_cons,List.flatMap_nil,List.append_nil]
    omega
 have h1:=hf i
 have h2:=hp i n
 have h3:i*B≤3*B:=Nat.mul_le_mul_right _ hi
 simp only[CW,List.length_cons,List.length_append]
 omega
theorem RU (y:Int):bits BinOp.and IntKind.i64 y 1=y % 2:=by
 have e:(BitVec.ofInt 64 y &&& BitVec.ofInt 64 1).toNat=(y % 2).toNat:=by
  rw[BitVec.toNat_and,BitVec.toNat_ofInt,show(BitVec.ofInt 64 1).toNat=1 from rfl,Nat.and_one_is_mod]
  omega
 show IntKind.i64.wrap ((BitVec.ofInt 64 y &&& BitVec.ofInt 64 1).toNat:Int)=y % 2
 rw[e,IntKind.wrap_i64]
 omega
theorem RS(f:Int)(k:Nat)(_hk:k<3):bits BinOp.and IntKind.i64 (f / 2 ^ k) 1=(f / 2 ^ k) % 2:=RU _
def IZ(W W':World):Prop:=KT 3 W W'∧KT 29 W W'
theorem IZ.trans_{A B C:World}(h:IZ A B)(k:IZ B C):IZ A C:=⟨h.1.trans k.1,h.2.trans k.2⟩
theorem KT.putObj_ {T:TypeId} (W:World) (l:Nat) (o o':Obj) (h:W.heap[l]? = some o) (ho:o.isCells=false):KT T W (W.putObj l o'):=by
 refine⟨by simp,fun g cur hB=>?_⟩
 have hne:g≠l:=fun e=>by
  subst e
  rw[AB,h] at hB
  cases hB
  cases ho
 exact(World.putObj_heap_other hne).trans hB
theorem IZ.put{B:Nat}(W:World)(l:Nat)(o o':Obj)(_:B≤l)(h:W.heap[l]? = some o)(ho:o.isCells=false)(_:o.isWalk=false):IZ W (W.putObj l o'):=⟨KT.putObj_ W l o o' h ho,KT.putObj_ W l o o' h ho⟩
theorem Mf (n : Nat) (hn : 1 ≤ n) (l bm N : Nat) (h : MH) (m : AC) (l0 : m.mT.length ≤ 100) (l1 : m.rT.length≤100) (l2:m.fT.length≤100) (l3:m.sT.length≤100) (hN:1000≤N) (J Jx:List (Int×Int)→World→Prop)
    (hY:∀ pre (x:Int×Int) W,J pre W→pre.length<N→YieldAt Fence.wide (n - 1) Tryz.prog l #[.agg #[.int .i64 x.1,.int .i64 x.2]] W fun e W' =>
      (e=.returned (.bool true)∧J (pre ++ [x]) W'∧IZ W W')∨(e=.returned (.bool false)∧Jx (pre ++ [x]) W'))
    (W:World) (hJ:AbidesFrom W.heap.size J) (hBm:AB W bm 29 #[.slice h.s m.sT.length h.sc,.slice h.f m.fT.length h.fc,.slice h.r m.rT.length h.rc,.slice h.m m.mT.length h.mc,.slice h.l m.lT.length h.lc,.slice h.i m.iT.length h.ic,.int .i64 m.dT,.int .i64 m.oT,.int .i64 m.vT,.int .i64 m.aT,.slice h.u m.uT.length h.uc]) (h0:J [] W) :
    CallsIn Fence.wide n Tryz.prog 213 #[.func (.yield l) #[] #[],.pointer (some ⟨bm,0,none⟩)] W fun e W'=>(∃ v,e=.returned v) ∧
     ((∃ ys,ys=EW m∧J ys W')∨(∃ pre,True∧Jx pre W')):=by
 obtain⟨fn,tmps,assign,body,hy,hR⟩:=hY [] (0,0) W h0 (by simp;omega)
 dsimp only at hy
 have HB:=hide hBm
 refine callsIn_of_wp Tryz.func213 rfl trivial ?_ rfl
 simp only[Tryz.ntmps213,List.size_toArray,List.length_cons,List.length_nil,Nat.reduceAdd,Nat.reduceSub,Array.replicate_succ,Array.replicate_zero,List.push_toArray,List.append_toArray,List.nil_append,List.cons_append]
 gi_wp2
 refine hR.mono ?_
 rintro e W3 (⟨rfl,hJ3,hk3⟩|⟨rfl,hJx3⟩)
 · have hB3 := HB.out
   replace hB3:=hk3.2.2 _ _ hB3
   have hz3:=hk3.1.1
   clear hk3 hR hy HB hBm
   have hBi:=AB.new W3 3 #[.int .i64 1,.int .i64 2,.int .i64 3]
   have hJ4:J [(0,0)] (W3.alloc (.cells #[.int .i64 1,.int .i64 2,.int .i64 3] 3)):=hJ _ _ _ none hJ3 (EJ ((Below.refl _ W3).alloc (Nat.le_refl _) _) none) (fun r e=>by cases e)
   have HJ4:=hide hJ4
   have HB4:=hide (hB3.alloc (.cells #[.int .i64 1,.int .i64 2,.int .i64 3] 3))
   have HI4:=hide hBi
   have HZ4:=hide (show W.heap.size≤(W3.alloc (.cells #[.int .i64 1,.int .i64 2,.int .i64 3] 3)).heap.size by simp;omega)
   have HYY:=hide hY
   have HJJ:=hide hJ
   clear hB3 hBi hJ3 hJ4 hY hJ h0 hz3
   gi_wp2
   gi_loopw [12] (fun i wr=>∃ k:Nat,k≤3∧i=.int .i64 k∧Hid (J (CW m k 0) wr∧AB wr bm 29 #[.slice h.s m.sT.length h.sc,.slice h.f m.fT.length h.fc,.slice h.r m.rT.length h.rc,.slice h.m m.mT.length h.mc,.slice h.l m.lT.length h.lc,.slice h.i m.iT.length h.ic,.int .i64 m.dT,.int .i64 m.oT,.int .i64 m.vT,.int .i64 m.aT,.slice h.u m.uT.length h.uc]∧AB wr W3.heap.size 3 #[.int .i64 1,.int .i64 2,.int .i64 3]∧W.heap.size≤wr.heap.size)) (fun i _=>3 - (intOf i).toNat)
   case atStart=>exact⟨0,by omega,rfl,by rw[LZ];exact HJ4.out,HB4.out,HI4.out,HZ4.out⟩
   case round =>
    obtain⟨k,hk,rfl,hS⟩:=hrel
    clear HJ4 HB4 HI4 HZ4
    by_cases hlt:k<3
    · obtain ⟨q1,q2,q3,q4⟩:=hS.out
      have x0:wr.cell? ⟨W3.heap.size,k,none⟩=some (.int .i64 ((k:Int)+1)):=by
       rw[q3.cell]
       have:k=0∨k=1∨k=2:=by omega
       rcases this with rfl|rfl|rfl <;> rfl
      obtain⟨a0,a1,a2,a3,a4,a5,a6,a7,a8,a9,a10⟩:=MB.cells q2
      have al:=q2.lt
      have il:=q3.lt
      have HD:=hide (Ii h m ((k:Int)+1) wr (by omega) (by omega) (by omega) (by omega))
      have HDB := hide (show 0 ≤ AZ m ((k : Int) + 1) ∧ AZ m ((k : Int) + 1) ≤ 100 from ⟨Cw _ _, by unfold AZ;repeat' split
                                                                                                    all_goals omega⟩)
      clear q1 q2 q3 q4
      gi_wp2_with (refine⟨trivial,?_⟩;gi_at_call 211;refine(callsIn_wide.2 HD.out).mono ?_;rintro e w5 ⟨rfl,hb5⟩)
      have HS5:=hide (show J (CW m k 0) w5∧AB w5 bm 29 #[.slice h.s m.sT.length h.sc,.slice h.f m.fT.length h.fc,.slice h.r m.rT.length h.rc,.slice h.m m.mT.length h.mc,.slice h.l m.lT.length h.lc,.slice h.i m.iT.length h.ic,.int .i64 m.dT,.int .i64 m.oT,.int .i64 m.vT,.int .i64 m.aT,.slice h.u m.uT.length h.uc]∧AB w5 W3.heap.size 3 #[.int .i64 1,.int .i64 2,.int .i64 3]∧W.heap.size≤w5.heap.size from⟨HJJ.out _ _ _ none hS.out.1 (EJ hb5 none) (fun r e=>by cases e),hS.out.2.1.below hb5 hS.out.2.1.lt,hS.out.2.2.1.below hb5 hS.out.2.2.1.lt,Nat.le_trans hS.out.2.2.2 hb5.size⟩)
      clear hb5 a0 a1 a2 a3 a4 a5 a6 a7 a8 a9 a10 al il x0
      gi_loopw [20] (fun i wr=>∃ q:Nat,(q:Int)≤AZ m ((k:Int)+1)∧i=.int .i64 q∧Hid (J (CW m k q) wr∧AB wr bm 29 #[.slice h.s m.sT.length h.sc,.slice h.f m.fT.length h.fc,.slice h.r m.rT.length h.rc,.slice h.m m.mT.length h.mc,.slice h.l m.lT.length h.lc,.slice h.i m.iT.length h.ic,.int .i64 m.dT,.int .i64 m.oT,.int .i64 m.vT,.int .i64 m.aT,.slice h.u m.uT.length h.uc]∧AB wr W3.heap.size 3 #[.int .i64 1,.int .i64 2,.int .i64 3]∧W.heap.size≤wr.heap.size)) (fun i _=>(AZ m ((k:Int)+1)).toNat - (intOf i).toNat)
      case atStart=>exact⟨0,by have:=HDB.out;omega,rfl,HS5⟩
      case round =>
       clear HS5 hS
       obtain⟨q,hq,rfl,hS⟩:=hrel
       by_cases hq2:(q:Int)<AZ m ((k:Int)+1)
       · obtain ⟨q1, q2, q3, q4⟩ := hS.out
         obtain⟨a0,a1,a2,a3,a4,a5,a6,a7,a8,a9,a10⟩:=MB.cells q2
         clear a0 a1 a2 a3 a4 a5 a6 a7 a8 a10
         have al:=q2.lt
         have hqb:(q:Int)≤100:=by have:=HDB.out;omega
         have hnd:=RS m.aT k hlt
         have HIN:=hide (And.intro q3 q4)
         have hpl : (CW m k q).length < N:=by
          have := NC m 100 (fun i => by have:=Cw m i;unfold AZ;repeat' split
                                        all_goals omega) k q (by omega) (by have:=HDB.out;omega)
          omega
         have HJ5:=hide q1
         have HYX:=hide (HYY.out (CW m k q) ((k:Int)+1,(q:Int)+1) wr q1 hpl)
         clear q1 q3 q4 hS hpl
         cases eb:GD m k
         · have hne:¬ bits BinOp.and IntKind.i64 (m.aT / 2 ^ k) 1=1:=by
             rw[hnd];simpa[GD] using eb
           have HE:=hide (Tc m k q eb)
           clear eb HYX hnd
           have HM5:=hide q2
           clear q2
           gi_wp2
           refine⟨fun _ h=>(by cases h),?_⟩
           gi_wp2
           go_roundw
           case rel=>exact⟨q+1,by omega,by go_num,by rw[HE.out];exact HJ5.out,HM5.out,HIN.out.1,HIN.out.2⟩
           case measure=>simp[intOf];omega
         · have hbs:bits BinOp.and IntKind.i64 (m.aT / 2 ^ k) 1=1:=by
             rw[hnd];simpa[GD] using eb
           clear hnd
           have HE:=hide (ND m k q eb)
           have HM5:=hide q2
           clear eb q2
           obtain⟨fn,tmps,assign,body,hy,hR⟩:=HYX.out
           dsimp only at hy
           clear HYX
           gi_wp2
           refine hR.mono ?_
           rintro e W6 (⟨rfl,hJ6,hk6⟩|⟨rfl,hJx6⟩)
           · have HS6:=hide (show J (CW m k (q+1)) W6∧AB W6 bm 29 #[.slice h.s m.sT.length h.sc,.slice h.f m.fT.length h.fc,.slice h.r m.rT.length h.rc,.slice h.m m.mT.length h.mc,.slice h.l m.lT.length h.lc,.slice h.i m.iT.length h.ic,.int .i64 m.dT,.int .i64 m.oT,.int .i64 m.vT,.int .i64 m.aT,.slice h.u m.uT.length h.uc]∧AB W6 W3.heap.size 3 #[.int .i64 1,.int .i64 2,.int .i64 3]∧W.heap.size≤W6.heap.size from⟨by rw[HE.out];exact hJ6,hk6.2.2 _ _ HM5.out,hk6.1.2 _ _ HIN.out.1,Nat.le_trans HIN.out.2 hk6.1.1⟩)
             clear hk6 hJ6 hR hy HJ5 HM5 HIN a9 al
             gi_wp2
             go_roundw
             case rel=>exact⟨q+1,by omega,by go_num,HS6⟩
             case measure=>simp[intOf];omega
           · have HX6:=hide hJx6
             clear hJx6 hR hy
             gi_wp2
             refine bodyPost_ret (results_none rfl _ _ _) rfl ?_
             exact⟨⟨_,rfl⟩,.inr ⟨_,trivial,HX6.out⟩⟩
       · have hqe:q=(AZ m ((k:Int)+1)).toNat:=by have:=HDB.out;omega
         have HS7:=hide (show J (CW m (k+1) 0) wr∧AB wr bm 29 #[.slice h.s m.sT.length h.sc,.slice h.f m.fT.length h.fc,.slice h.r m.rT.length h.rc,.slice h.m m.mT.length h.mc,.slice h.l m.lT.length h.lc,.slice h.i m.iT.length h.ic,.int .i64 m.dT,.int .i64 m.oT,.int .i64 m.vT,.int .i64 m.aT,.slice h.u m.uT.length h.uc]∧AB wr W3.heap.size 3 #[.int .i64 1,.int .i64 2,.int .i64 3]∧W.heap.size≤wr.heap.size from by rw[← I9,← hqe];exact hS.out)
         clear hS hqe
         gi_wp2
         go_roundw
         case rel=>exact⟨k+1,by omega,by go_num,HS7⟩
         case measure=>simp[intOf];omega
    · obtain rfl:k=3:=by omega
      have hS:=hS
      gi_wp2
      go_end0
      exact⟨⟨_,rfl⟩,.inl ⟨EW m,rfl,by rw[← NB];exact hS.out.1⟩⟩
 · gi_wp2
   refine bodyPost_ret (results_none rfl _ _ _) rfl ?_
   exact⟨⟨_,rfl⟩,.inr ⟨_,trivial,hJx3⟩⟩
attribute [local go_sem] Oper.semAt_some
def CP(B:Nat)(w:World)(v:Value)(l:List (Int×Int)):Prop:=w.ownsRow B 109 2 v l.length (AL l)
theorem Si:(Tryz.prog.info? 109).map (fun i=>(i.zero,i.size,i.bytes))=some (some (.agg #[.int .i64 0,.int .i64 0]),2,16):=by kernel_rfl
def Rh(x:Int×Int):Array Value:=#[.agg #[.int .i64 x.1,.int .i64 x.2]]
theorem appendSeq_in (n:Nat) (hn:6≤n) (gf:Nat) (lb:Array Value) (S Sp:List (Int×Int)→Prop) (N:Nat) (w:World) (hN:N≤100000) (eg:∀ args w,(callFunc gf args).run Tryz.prog w=.ok (.enter gf args) w)
    (hseq:SeqStopsK Fence.wide (n - 1) Tryz.prog gf lb Rh IZ S Sp N w) :
    CallsIn Fence.wide n Tryz.prog 212 #[.slice none 0 0,.func (.func gf) #[] lb] w fun e W'=>∃ v xs,e=.returned v∧S xs∧CP w.heap.size W' v xs∧Below w.heap.size w W':=by
 refine callsIn_of_wp_marks Tryz.func212 rfl trivial ?_ rfl
 simp only[Tryz.ntmps212,List.size_toArray,List.length_cons,List.length_nil,Nat.reduceAdd,Nat.reduceSub,Array.replicate_succ,Array.replicate_zero,List.push_toArray,List.append_toArray,List.nil_append,List.cons_append]
 gi_wp2
 have hb0:Below w.heap.size w (w.alloc (.cells #[.slice none 0 0] 107)):=(Below.refl _ w).alloc (Nat.le_refl _) _
 refine wpIn_rangeFunc_ownH rfl (by omega) (gf:=gf) (lb:=lb) rfl trivial eg hseq (fun h k=>IZ.trans_ h k) (fun W l o o' hl h1 h2 h3=>IZ.put (B:=0) W l o o' (by omega) h1 h2 h3) hb0 (fun _=>rfl)
  (fun pre W=>(∃ v,Boxed W w.heap.size 107 v∧W.ownsRow w.heap.size 109 2 v pre.length (AL pre)∧True)∧Below w.heap.size w W)
  (fun _ _ _=>False)
  (OwnFrom.and (Own.from (holdsRow_own w.heap.size w.heap.size 107 109 2 (fun pre=>pre.length) (fun pre=>AL pre) (fun _ _=>True)) _) (ownFrom_below (Nat.le_refl _) (by simp)))
  (fun _ _ _ _ _ hs _ _=>hs)
  ⟨⟨_,Boxed.new w _ _,World.ownsRow_nil _ _ _ _,trivial⟩,hb0⟩
  (fun x a' W=>∃ Bx,w.heap.size<Bx∧AB W Bx 109 #[.int .i64 x.1,.int .i64 x.2]∧a' = { tmps:=#[.slice none 0 0,.func (.func gf) #[] lb,.pointer (some ⟨w.heap.size,0,none⟩),undef,.slice none 0 0,.pointer (some ⟨Bx,0,none⟩),.func (.func gf) #[] lb,.agg #[.int .i64 x.1,.int .i64 x.2],undef,undef,undef,undef,undef],defers:=[] })
  (fun x a' _ X Y row hs hg hr=>by
    obtain⟨Bx,h1,h2,h3⟩:=hs
    exact⟨Bx,h1,h2.grown hg (fun e=>by
     obtain⟨_,o,ho,hc⟩:=hr Bx e.symm
     rw[AB,ho] at h2;cases h2;cases hc),h3⟩)
  ?assign ?body ?done ?stop
 case assign =>
  rintro l pre x W K ⟨⟨v,hv,hrow,_⟩,hB1⟩ hK
  simp only[Rh]
  gi_wp2
  have hne:3≠109:=by decide
  exact hK _ _ ((KeepsOthers.alloc _ _).from _) ⟨KT.alloc _ _,KT.alloc _ _⟩ ⟨⟨v,hv.alloc _,hrow.alloc _,trivial⟩,hB1.alloc hB1.size _⟩ ⟨W.heap.size,hv.lt,AB.new W _ _,rfl⟩
 case body =>
  rintro l pre x a' W hl ⟨r,hr⟩ ⟨⟨v,hv,hrow,_⟩,hB1⟩ ⟨Bx,hBx,bX,rfl⟩ hlt
  have hv1:=hv.cell
  have x0:=bX.cell 0
  have x1:=bX.cell 1
  have xl:=bX.lt
  simp at x0 x1
  have vl:=hv.lt
  obtain⟨i0,hi,hz0,hz1,hz2⟩:=info_parts Si
  gi_wp2_with (gi_at_builtin;refine wpListIn_append_own _ rfl _ _ 107 rfl w.heap.size 109 i0 _ 2 16 Tryz.underlying107 hi hz0 hz1 hz2 rfl (by decide) _ _ _ rfl (hrow.alloc _) ⟨W.heap.size,0,none⟩ 1 1 (AL [x]) rfl rfl (fun j u hu=>by rw[BA,Nat.zero_add,CZ];simpa[AL] using hu) (Cb [x]) (by unfold maxLen;omega) (by omega) (by have:=hB1.size;simp;omega) ?_;intro v' w1 hown' hgrow _;obtain⟨g',cap',rfl⟩:=ownsRow_succ hown';obtain⟨q1,q2,q3,q4,q5⟩:=hv.appended (by decide) hrow hB1.size (Nat.le_refl _) hown' hgrow;have hc1:=q1.cell;have hf1:=q1.frozen)
  have hcs:AL pre++AL [x]=AL (pre ++ [x]):=(DR pre [x]).symm
  rw[hcs] at hown' q3
  refine⟨q4.from _,⟨((KT.alloc W _).trans (KT.grown (hrow.alloc _) (by decide) hgrow)).trans (KT.set_ (cs:=#[v]) q1 (by decide) 0 _),((KT.alloc W _).trans (KT.grown (hrow.alloc _) (by decide) hgrow)).trans (KT.set_ (cs:=#[v]) q1 (by decide) 0 _)⟩,⟨⟨_,q2,by rw[List.length_append];exact q3,trivial⟩,hB1.trans q5⟩⟩
 case done =>
  rintro D xs W hD hS ⟨⟨v,hv,hrow,_⟩,hB1⟩ hK
  have hv1:=hv.cell
  have vl:=hv.lt
  gi_wp2
  refine⟨by simp,.inl ⟨_,_,rfl,run_takeDeferred hK,?_⟩⟩
  exact⟨_,results_tmp rfl _ _ _,v,xs,rfl,hS,ownsRow_putObj hrow _ hK rfl,hB1.trans (belowK_b (w:=w) (Nat.le_refl _) W D _ _ (by simp at hD;omega) hK rfl rfl)⟩
 case stop =>
  rintro D c pre W _ _ h _
  exact h.elim
theorem Ll (n:Nat) (hn:1≤n) (bm:Nat) (h:MH) (m:AC) (l0:m.mT.length≤100) (l1:m.rT.length≤100) (l2:m.fT.length≤100) (l3:m.sT.length≤100) (w:World) (hBm:AB w bm 29 #[.slice h.s m.sT.length h.sc,.slice h.f m.fT.length h.fc,.slice h.r m.rT.length h.rc,.slice h.m m.mT.length h.mc,.slice h.l m.lT.length h.lc,.slice h.i m.iT.length h.ic,.int .i64 m.dT,.int .i64 m.oT,.int .i64 m.vT,.int .i64 m.aT,.slice h.u m.uT.length h.uc]) :
    SeqStopsK Fence.wide n Tryz.prog 213 #[.pointer (some ⟨bm,0,none⟩)] Rh IZ (fun ys=>ys=EW m) (fun _=>True) 1000 w :=
 fun l J Jx W hW hJ _ hY h0=>Mf n hn l bm 1000 h m l0 l1 l2 l3 (Nat.le_refl _) J Jx hY W hJ (hBm.below hW hBm.lt) h0
theorem Lh (bm:Nat) (h:MH) (m:AC) (l0:m.mT.length≤100) (l1:m.rT.length≤100) (l2:m.fT.length≤100) (l3:m.sT.length≤100) (w:World) (hBm:AB w bm 29 #[.slice h.s m.sT.length h.sc,.slice h.f m.fT.length h.fc,.slice h.r m.rT.length h.rc,.slice h.m m.mT.length h.mc,.slice h.l m.lT.length h.lc,.slice h.i m.iT.length h.ic,.int .i64 m.dT,.int .i64 m.oT,.int .i64 m.vT,.int .i64 m.aT,.slice h.u m.uT.length h.uc]) :
    Calls Tryz.prog 212 #[.slice none 0 0,.func (.func 213) #[] #[.pointer (some ⟨bm,0,none⟩)]] w fun e W'=>∃ v,e=.returned v∧CP w.heap.size W' v (EW m)∧Below w.heap.size w W':=by
 refine((callsIn_wide (n:=8)).1 (appendSeq_in 8 (by omega) 213 #[.pointer (some ⟨bm,0,none⟩)] (fun ys=>ys=EW m) (fun _=>True) 1000 w (by omega) (fun _ _=>by kernel_rfl) (Ll 7 (by omega) bm h m l0 l1 l2 l3 w hBm))).mono ?_
 rintro e W' ⟨v,xs,rfl,rfl,ho,hb⟩
 exact⟨v,rfl,ho,hb⟩
theorem Na (bm:Nat) (h:MH) (m:AC) (l0:m.mT.length≤100) (l1:m.rT.length≤100) (l2:m.fT.length≤100) (l3:m.sT.length≤100) (w:World) (hBm:AB w bm 29 #[.slice h.s m.sT.length h.sc,.slice h.f m.fT.length h.fc,.slice h.r m.rT.length h.rc,.slice h.m m.mT.length h.mc,.slice h.l m.lT.length h.lc,.slice h.i m.iT.length h.ic,.int .i64 m.dT,.int .i64 m.oT,.int .i64 m.vT,.int .i64 m.aT,.slice h.u m.uT.length h.uc]) :
    Calls Tryz.prog 189 #[.func (.func 213) #[] #[.pointer (some ⟨bm,0,none⟩)]] w fun e W'=>∃ v,e=.returned v∧CP w.heap.size W' v (EW m)∧Below w.heap.size w W':=by
 have HC:=hide (Lh bm h m l0 l1 l2 l3 w hBm)
 clear hBm
 go_enter Tryz.func189,Tryz.ntmps189
 go_wp2_with (go_at_call 212;refine HC.out.mono ?_;rintro e w1 ⟨v,rfl,ho,hb⟩)
 go_ret
 exact⟨v,rfl,ho,hb⟩
theorem Lm (h:MH) (m:AC) (w:World) :
    Calls Tryz.prog 190 #[.agg #[.slice h.s m.sT.length h.sc,.slice h.f m.fT.length h.fc,.slice h.r m.rT.length h.rc,.slice h.m m.mT.length h.mc,.slice h.l m.lT.length h.lc,.slice h.i m.iT.length h.ic,.int .i64 m.dT,.int .i64 m.oT,.int .i64 m.vT,.int .i64 m.aT,.slice h.u m.uT.length h.uc]] w fun e W'=>e=.returned (.func (.func 213) #[] #[.pointer (some ⟨w.heap.size,0,none⟩)])∧W'=w.alloc (.cells #[.slice h.s m.sT.length h.sc,.slice h.f m.fT.length h.fc,.slice h.r m.rT.length h.rc,.slice h.m m.mT.length h.mc,.slice h.l m.lT.length h.lc,.slice h.i m.iT.length h.ic,.int .i64 m.dT,.int .i64 m.oT,.int .i64 m.vT,.int .i64 m.aT,.slice h.u m.uT.length h.uc] 29):=by
 go_enter Tryz.func190,Tryz.ntmps190
 go_wp2_with fail
 go_ret
 exact⟨rfl,rfl⟩
def Ej(w:World)(l:List (Int×Int))(e:Ending)(w':World):Prop:=∃ v,e=.returned v∧CP w.heap.size w' v l∧Below w.heap.size w w'
theorem Fw {w:World} {B B':Nat} {v:Value} {l:List (Int×Int)} (h:CP B' w v l) (hB:B≤B'):CP B w v l:=by
 refine⟨h.1,?_⟩
 rcases h.2 with h0|⟨g,cap,cur,e1,e2,h3⟩
 · exact .inl h0
 · exact .inr ⟨g,cap,cur,e1,by omega,h3⟩
theorem RQ (h:MH) (m:AC) (l0:m.mT.length≤100) (l1:m.rT.length≤100) (l2:m.fT.length≤100) (l3:m.sT.length≤100) (w:World) :
    Calls Tryz.prog 123 #[.agg #[.slice h.s m.sT.length h.sc,.slice h.f m.fT.length h.fc,.slice h.r m.rT.length h.rc,.slice h.m m.mT.length h.mc,.slice h.l m.lT.length h.lc,.slice h.i m.iT.length h.ic,.int .i64 m.dT,.int .i64 m.oT,.int .i64 m.vT,.int .i64 m.aT,.slice h.u m.uT.length h.uc]] w (Ej w (EW m)):=by
 have HB:=hide ((Below.refl w.heap.size w).alloc (Nat.le_refl _) (.cells #[.slice h.s m.sT.length h.sc,.slice h.f m.fT.length h.fc,.slice h.r m.rT.length h.rc,.slice h.m m.mT.length h.mc,.slice h.l m.lT.length h.lc,.slice h.i m.iT.length h.ic,.int .i64 m.dT,.int .i64 m.oT,.int .i64 m.vT,.int .i64 m.aT,.slice h.u m.uT.length h.uc] 29))
 have HD:=hide (Lm h m (w.alloc (.cells #[.slice h.s m.sT.length h.sc,.slice h.f m.fT.length h.fc,.slice h.r m.rT.length h.rc,.slice h.m m.mT.length h.mc,.slice h.l m.lT.length h.lc,.slice h.i m.iT.length h.ic,.int .i64 m.dT,.int .i64 m.oT,.int .i64 m.vT,.int .i64 m.aT,.slice h.u m.uT.length h.uc] 29)))
 have HC:=hide (Na (w.heap.size+1) h m l0 l1 l2 l3 ((w.alloc (.cells #[.slice h.s m.sT.length h.sc,.slice h.f m.fT.length h.fc,.slice h.r m.rT.length h.rc,.slice h.m m.mT.length h.mc,.slice h.l m.lT.length h.lc,.slice h.i m.iT.length h.ic,.int .i64 m.dT,.int .i64 m.oT,.int .i64 m.vT,.int .i64 m.aT,.slice h.u m.uT.length h.uc] 29)).alloc (.cells #[.slice h.s m.sT.length h.sc,.slice h.f m.fT.length h.fc,.slice h.r m.rT.length h.rc,.slice h.m m.mT.length h.mc,.slice h.l m.lT.length h.lc,.slice h.i m.iT.length h.ic,.int .i64 m.dT,.int .i64 m.oT,.int .i64 m.vT,.int .i64 m.aT,.slice h.u m.uT.length h.uc] 29)) (by simpa using AB.new (w.alloc (.cells #[.slice h.s m.sT.length h.sc,.slice h.f m.fT.length h.fc,.slice h.r m.rT.length h.rc,.slice h.m m.mT.length h.mc,.slice h.l m.lT.length h.lc,.slice h.i m.iT.length h.ic,.int .i64 m.dT,.int .i64 m.oT,.int .i64 m.vT,.int .i64 m.aT,.slice h.u m.uT.length h.uc] 29)) 29 #[.slice h.s m.sT.length h.sc,.slice h.f m.fT.length h.fc,.slice h.r m.rT.length h.rc,.slice h.m m.mT.length h.mc,.slice h.l m.lT.length h.lc,.slice h.i m.iT.length h.ic,.int .i64 m.dT,.int .i64 m.oT,.int .i64 m.vT,.int .i64 m.aT,.slice h.u m.uT.length h.uc]))
 have HB2:=hide (HB.out.alloc HB.out.size (.cells #[.slice h.s m.sT.length h.sc,.slice h.f m.fT.length h.fc,.slice h.r m.rT.length h.rc,.slice h.m m.mT.length h.mc,.slice h.l m.lT.length h.lc,.slice h.i m.iT.length h.ic,.int .i64 m.dT,.int .i64 m.oT,.int .i64 m.vT,.int .i64 m.aT,.slice h.u m.uT.length h.uc] 29))
 go_enter Tryz.func123,Tryz.ntmps123
 go_wp2_with (first
  | (go_at_call 190;refine HD.out.mono ?_;rintro e w1 ⟨rfl,rfl⟩;simp only[World.size_alloc])
  | (go_at_call 189;refine HC.out.mono ?_;rintro e w2 ⟨v,rfl,ho,hb⟩;have HO:=hide ho;have HBx:=hide hb;clear ho hb))
 go_ret
 exact⟨v,rfl,Fw HO.out HB2.out.size,HB2.out.trans (HBx.out.mono HB2.out.size)⟩
end Go.Proofs.YtfemlajeomohhaaGreatDoor
