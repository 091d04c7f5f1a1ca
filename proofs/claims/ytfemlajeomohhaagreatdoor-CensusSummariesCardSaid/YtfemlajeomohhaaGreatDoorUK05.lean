/- A part of the claim: see its last text. -/
import Derived.Test.YtfemlajeomohhaaGreatDoorUK02
import Derived.Deep.RegionHeld3

set_option maxRecDepth 100000
set_option maxHeartbeats 16000000
namespace Go.Proofs.YtfemlajeomohhaaGreatDoor
open Go Go.RowKit Go.Proofs
theorem AY {B:Nat} {w w':World} (h:Below B w w') (n:Nat):Below B w (w'.drewN n):=by
 induction n with
 | zero=>exact h
 | succ n ih=>exact ih.drew
def MM (g:Nat) (lb:Array Value) (l:List CQ) (p:CQ→Bool) (w:World):Prop :=
 ∀ (i:Nat) (_:i<l.length) (W:World),Below w.heap.size w W→Calls Tryz.prog g (#[.agg #[.string l[i].name,.int .i64 l[i].site,.int .i64 l[i].feed]]++lb) W fun e w'=>e=.returned (.bool (p l[i]))∧Below W.heap.size W w'
theorem Ky (g:Nat) (lb:Array Value) (eg:∀ args w,(callFunc g args).run Tryz.prog w=.ok (.enter g args) w) (p:CQ→Bool) (A:Option Addr) (c:Nat) (l:List CQ) (w:World)
    (hl:l.length≤9223372036854775807) (h:Rows Ec 3 w w.heap.size A l) (hp:MM g lb l p w) :
    Calls Tryz.prog 137 #[.slice A l.length c,.func (.func g) #[] lb] w fun e w'=>e=.returned (.int .i64 (Ae p l))∧Below w.heap.size w w':=by
 have HP:=hide hp;clear hp
 go_enter Tryz.func137,Tryz.ntmps137
 go_wp2_with fail
 go_loopw [8] (fun i wr=>∃ k:Nat,k≤l.length∧i=.int .i64 k∧Below w.heap.size w wr∧Hid (∀ j (hj:j<l.length),j<k→p l[j]=false)) (fun i _=>l.length - (intOf i).toNat)
 case atStart=>exact⟨0,Nat.zero_le _,rfl,Below.refl _ _,fun j hj h0=>absurd h0 (by omega)⟩
 case round =>
  obtain⟨k,hk,rfl,hbr,hs⟩:=hrel
  by_cases hlt:k<l.length
  · obtain ⟨b,off,hA,hb,x0,x1,x2,_⟩:=(h.below hbr).rack hlt
    subst hA
    have hC:=HP.out k hlt wr hbr
    cases hpk:p l[k]
    · rw [hpk] at hC
      have HC:=hide hC
      clear hC
      go_wp2_with (refine(HC.out).mono ?_;rintro e w1 ⟨rfl,hb1⟩)
      go_roundw
      case rel=>exact⟨k+1,by omega,by go_num,hbr.trans (hb1.mono hbr.size),fun j hj h1=>by
       rcases Nat.lt_or_ge j k with h2|h2
       · exact hs j hj h2
       · obtain rfl:j=k:=by omega
         exact hpk⟩
      case measure=>simp[intOf];omega
    · rw[hpk] at hC
      have HC:=hide hC
      have HF:=hide (CF hlt hpk hs)
      clear hC
      go_wp2_with (refine(HC.out).mono ?_;rintro e w1 ⟨rfl,hb1⟩)
      go_ret
      exact⟨AJ (by rw[HF.out];rfl),hbr.trans (hb1.mono hbr.size)⟩
  · have HF:=hide (Ba fun j hj=>hs j hj (by omega))
    go_wp2_with fail
    go_ret
    exact⟨AJ (by rw[HF.out];rfl),hbr⟩
theorem JN (g:Nat) (lb:Array Value) (eg:∀ args w,(callFunc g args).run Tryz.prog w=.ok (.enter g args) w) (p:CQ→Bool) (A:Option Addr) (c:Nat) (l:List CQ) (w:World)
    (hl:l.length≤9223372036854775807) (h:Rows Ec 3 w w.heap.size A l) (hp:MM g lb l p w) :
    Calls Tryz.prog 95 #[.slice A l.length c,.func (.func g) #[] lb] w fun e w'=>e=.returned (.bool (l.any p))∧Below w.heap.size w w':=by
 have HC:=hide (Ky g lb eg p A c l w hl h hp);clear hp h
 have HF:=hide (Ev p l)
 go_enter Tryz.func95,Tryz.ntmps95
 go_wp2_with (go_at_call 137;refine HC.out.mono ?_;rintro e w1 ⟨rfl,hb1⟩)
 go_ret
 exact⟨AJ (by rw[← HF.out];rfl),hb1⟩
def ML (g:Nat) (lb:Array Value) (l:List Co) (p:Co→Bool) (w:World):Prop :=
 ∀ (i:Nat) (_:i<l.length) (W:World),Below w.heap.size w W→Calls Tryz.prog g (#[.agg #[.int .i64 l[i].a,.int .i64 l[i].b,.int .i64 l[i].cap]]++lb) W fun e w'=>e=.returned (.bool (p l[i]))∧Below W.heap.size W w'
theorem Kw (g:Nat) (lb:Array Value) (eg:∀ args w,(callFunc g args).run Tryz.prog w=.ok (.enter g args) w) (p:Co→Bool) (A:Option Addr) (c:Nat) (l:List Co) (w:World)
    (hl:l.length≤9223372036854775807) (h:Rows Eb 3 w w.heap.size A l) (hp:ML g lb l p w) :
    Calls Tryz.prog 138 #[.slice A l.length c,.func (.func g) #[] lb] w fun e w'=>e=.returned (.int .i64 (Ae p l))∧Below w.heap.size w w':=by
 have HP:=hide hp;clear hp
 go_enter Tryz.func138,Tryz.ntmps138
 go_wp2_with fail
 go_loopw [8] (fun i wr=>∃ k:Nat,k≤l.length∧i=.int .i64 k∧Below w.heap.size w wr∧Hid (∀ j (hj:j<l.length),j<k→p l[j]=false)) (fun i _=>l.length - (intOf i).toNat)
 case atStart=>exact⟨0,Nat.zero_le _,rfl,Below.refl _ _,fun j hj h0=>absurd h0 (by omega)⟩
 case round =>
  obtain⟨k,hk,rfl,hbr,hs⟩:=hrel
  by_cases hlt:k<l.length
  · obtain ⟨b,off,hA,hb,x0,x1,x2⟩:=(h.below hbr).link hlt
    subst hA
    have hC:=HP.out k hlt wr hbr
    cases hpk:p l[k]
    · rw [hpk] at hC
      have HC:=hide hC
      clear hC
      go_wp2_with (refine(HC.out).mono ?_;rintro e w1 ⟨rfl,hb1⟩)
      go_roundw
      case rel=>exact⟨k+1,by omega,by go_num,hbr.trans (hb1.mono hbr.size),fun j hj h1=>by
       rcases Nat.lt_or_ge j k with h2|h2
       · exact hs j hj h2
       · obtain rfl:j=k:=by omega
         exact hpk⟩
      case measure=>simp[intOf];omega
    · rw[hpk] at hC
      have HC:=hide hC
      have HF:=hide (CF hlt hpk hs)
      clear hC
      go_wp2_with (refine(HC.out).mono ?_;rintro e w1 ⟨rfl,hb1⟩)
      go_ret
      exact⟨AJ (by rw[HF.out];rfl),hbr.trans (hb1.mono hbr.size)⟩
  · have HF:=hide (Ba fun j hj=>hs j hj (by omega))
    go_wp2_with fail
    go_ret
    exact⟨AJ (by rw[HF.out];rfl),hbr⟩
theorem JM (g:Nat) (lb:Array Value) (eg:∀ args w,(callFunc g args).run Tryz.prog w=.ok (.enter g args) w) (p:Co→Bool) (A:Option Addr) (c:Nat) (l:List Co) (w:World)
    (hl:l.length≤9223372036854775807) (h:Rows Eb 3 w w.heap.size A l) (hp:ML g lb l p w) :
    Calls Tryz.prog 102 #[.slice A l.length c,.func (.func g) #[] lb] w fun e w'=>e=.returned (.bool (l.any p))∧Below w.heap.size w w':=by
 have HC:=hide (Kw g lb eg p A c l w hl h hp);clear hp h
 have HF:=hide (Ev p l)
 go_enter Tryz.func102,Tryz.ntmps102
 go_wp2_with (go_at_call 138;refine HC.out.mono ?_;rintro e w1 ⟨rfl,hb1⟩)
 go_ret
 exact⟨AJ (by rw[← HF.out];rfl),hb1⟩
def MK (g:Nat) (lb:Array Value) (l:List Bc) (p:Bc→Bool) (w:World):Prop :=
 ∀ (i:Nat) (_:i<l.length) (A2:Option Addr) (c2:Nat) (W:World),Below w.heap.size w W→l[i].on.length≤c2→c2≤9223372036854775807→Ints W W.heap.size A2 l[i].on→Calls Tryz.prog g (#[.agg #[.string l[i].name,.int .i64 l[i].kind,.int .i64 l[i].count,.int .i64 l[i].load,.int .i64 l[i].size,.int .i64 l[i].share,.slice A2 l[i].on.length c2]]++lb) W fun e w'=>e=.returned (.bool (p l[i]))∧Below W.heap.size W w'
theorem Kv (g:Nat) (lb:Array Value) (eg:∀ args w,(callFunc g args).run Tryz.prog w=.ok (.enter g args) w) (p:Bc→Bool) (A:Option Addr) (c:Nat) (l:List Bc) (w:World)
    (hl:l.length≤9223372036854775807) (h:Rows F3 7 w w.heap.size A l) (hp:MK g lb l p w) :
    Calls Tryz.prog 109 #[.slice A l.length c,.func (.func g) #[] lb] w fun e w'=>e=.returned (.int .i64 (Ae p l))∧Below w.heap.size w w':=by
 have HP:=hide hp;clear hp
 go_enter Tryz.func109,Tryz.ntmps109
 go_wp2_with fail
 go_loopw [8] (fun i wr=>∃ k:Nat,k≤l.length∧i=.int .i64 k∧Below w.heap.size w wr∧Hid (∀ j (hj:j<l.length),j<k→p l[j]=false)) (fun i _=>l.length - (intOf i).toNat)
 case atStart=>exact⟨0,Nat.zero_le _,rfl,Below.refl _ _,fun j hj h0=>absurd h0 (by omega)⟩
 case round =>
  obtain⟨k,hk,rfl,hbr,hs⟩:=hrel
  by_cases hlt:k<l.length
  · obtain ⟨b,off,A2,c2,hA,hb,x0,x1,x2,x3,x4,x5,x6,_,g1,g2,gI⟩:=(h.below hbr).item hlt
    subst hA
    have hC:=HP.out k hlt A2 c2 wr hbr g1 g2 (gI.more hbr.size)
    cases hpk:p l[k]
    · rw [hpk] at hC
      have HC:=hide hC
      clear hC
      go_wp2_with (refine(HC.out).mono ?_;rintro e w1 ⟨rfl,hb1⟩)
      go_roundw
      case rel=>exact⟨k+1,by omega,by go_num,hbr.trans (hb1.mono hbr.size),fun j hj h1=>by
       rcases Nat.lt_or_ge j k with h2|h2
       · exact hs j hj h2
       · obtain rfl:j=k:=by omega
         exact hpk⟩
      case measure=>simp[intOf];omega
    · rw[hpk] at hC
      have HC:=hide hC
      have HF:=hide (CF hlt hpk hs)
      clear hC
      go_wp2_with (refine(HC.out).mono ?_;rintro e w1 ⟨rfl,hb1⟩)
      go_ret
      exact⟨AJ (by rw[HF.out];rfl),hbr.trans (hb1.mono hbr.size)⟩
  · have HF:=hide (Ba fun j hj=>hs j hj (by omega))
    go_wp2_with fail
    go_ret
    exact⟨AJ (by rw[HF.out];rfl),hbr⟩
theorem Fj (g:Nat) (lb:Array Value) (eg:∀ args w,(callFunc g args).run Tryz.prog w=.ok (.enter g args) w) (p:Bc→Bool) (A:Option Addr) (c:Nat) (l:List Bc) (w:World)
    (hl:l.length≤9223372036854775807) (h:Rows F3 7 w w.heap.size A l) (hp:MK g lb l p w) :
    Calls Tryz.prog 55 #[.slice A l.length c,.func (.func g) #[] lb] w fun e w'=>e=.returned (.bool (l.any p))∧Below w.heap.size w w':=by
 have HC:=hide (Kv g lb eg p A c l w hl h hp);clear hp h
 have HF:=hide (Ev p l)
 go_enter Tryz.func55,Tryz.ntmps55
 go_wp2_with (go_at_call 109;refine HC.out.mono ?_;rintro e w1 ⟨rfl,hb1⟩)
 go_ret
 exact⟨AJ (by rw[← HF.out];rfl),hb1⟩
def MN (g:Nat) (lb:Array Value) (l:List AR) (p:AR→Bool) (w:World):Prop :=
 ∀ (i:Nat) (_:i<l.length) (A2:Option Addr) (c2:Nat) (W:World),Below w.heap.size w W→l[i].machines.length≤c2→c2≤9223372036854775807→Ints W W.heap.size A2 l[i].machines→Calls Tryz.prog g (#[.agg #[.int .i64 l[i].kind,.int .i64 l[i].item,.int .i64 l[i].other,.int .i64 l[i].n,.int .i64 l[i].by_,.bool l[i].always,.slice A2 l[i].machines.length c2]]++lb) W fun e w'=>e=.returned (.bool (p l[i]))∧Below W.heap.size W w'
theorem Kz (g:Nat) (lb:Array Value) (eg:∀ args w,(callFunc g args).run Tryz.prog w=.ok (.enter g args) w) (p:AR→Bool) (A:Option Addr) (c:Nat) (l:List AR) (w:World)
    (hl:l.length≤9223372036854775807) (h:Rows F4 7 w w.heap.size A l) (hp:MN g lb l p w) :
    Calls Tryz.prog 114 #[.slice A l.length c,.func (.func g) #[] lb] w fun e w'=>e=.returned (.int .i64 (Ae p l))∧Below w.heap.size w w':=by
 have HP:=hide hp;clear hp
 go_enter Tryz.func114,Tryz.ntmps114
 go_wp2_with fail
 go_loopw [8] (fun i wr=>∃ k:Nat,k≤l.length∧i=.int .i64 k∧Below w.heap.size w wr∧Hid (∀ j (hj:j<l.length),j<k→p l[j]=false)) (fun i _=>l.length - (intOf i).toNat)
 case atStart=>exact⟨0,Nat.zero_le _,rfl,Below.refl _ _,fun j hj h0=>absurd h0 (by omega)⟩
 case round =>
  obtain⟨k,hk,rfl,hbr,hs⟩:=hrel
  by_cases hlt:k<l.length
  · obtain ⟨b,off,A2,c2,hA,hb,x0,x1,x2,x3,x4,x5,x6,g1,g2,gI⟩:=(h.below hbr).rule hlt
    subst hA
    have hC:=HP.out k hlt A2 c2 wr hbr g1 g2 (gI.more hbr.size)
    cases hpk:p l[k]
    · rw [hpk] at hC
      have HC:=hide hC
      clear hC
      go_wp2_with (refine(HC.out).mono ?_;rintro e w1 ⟨rfl,hb1⟩)
      go_roundw
      case rel=>exact⟨k+1,by omega,by go_num,hbr.trans (hb1.mono hbr.size),fun j hj h1=>by
       rcases Nat.lt_or_ge j k with h2|h2
       · exact hs j hj h2
       · obtain rfl:j=k:=by omega
         exact hpk⟩
      case measure=>simp[intOf];omega
    · rw[hpk] at hC
      have HC:=hide hC
      have HF:=hide (CF hlt hpk hs)
      clear hC
      go_wp2_with (refine(HC.out).mono ?_;rintro e w1 ⟨rfl,hb1⟩)
      go_ret
      exact⟨AJ (by rw[HF.out];rfl),hbr.trans (hb1.mono hbr.size)⟩
  · have HF:=hide (Ba fun j hj=>hs j hj (by omega))
    go_wp2_with fail
    go_ret
    exact⟨AJ (by rw[HF.out];rfl),hbr⟩
theorem Fp (g:Nat) (lb:Array Value) (eg:∀ args w,(callFunc g args).run Tryz.prog w=.ok (.enter g args) w) (p:AR→Bool) (A:Option Addr) (c:Nat) (l:List AR) (w:World)
    (hl:l.length≤9223372036854775807) (h:Rows F4 7 w w.heap.size A l) (hp:MN g lb l p w) :
    Calls Tryz.prog 58 #[.slice A l.length c,.func (.func g) #[] lb] w fun e w'=>e=.returned (.bool (l.any p))∧Below w.heap.size w w':=by
 have HC:=hide (Kz g lb eg p A c l w hl h hp);clear hp h
 have HF:=hide (Ev p l)
 go_enter Tryz.func58,Tryz.ntmps58
 go_wp2_with (go_at_call 114;refine HC.out.mono ?_;rintro e w1 ⟨rfl,hb1⟩)
 go_ret
 exact⟨AJ (by rw[← HF.out];rfl),hb1⟩
theorem QB (g:Nat) (lb:Array Value) (eg:∀ args w,(callFunc g args).run Tryz.prog w=.ok (.enter g args) w) (p:CQ→List CQ→Bool) (A:Option Addr) (c:Nat) (l:List CQ) (w:World)
    (hl:l.length≤9223372036854775807) (hlc:l.length≤c) (h:Rows Ec 3 w w.heap.size A l)
    (hp:∀ (i:Nat) (_:i<l.length) (W:World),Below w.heap.size w W→Calls Tryz.prog g (#[.agg #[.string l[i].name,.int .i64 l[i].site,.int .i64 l[i].feed],.slice A i c]++lb) W fun e w'=>e=.returned (.bool (p l[i] (l.take i)))∧Below W.heap.size W w') :
    Calls Tryz.prog 92 #[.slice A l.length c,.func (.func g) #[] lb] w fun e w'=>e=.returned (.bool (Bq p l))∧Below w.heap.size w w':=by
 have HP:=hide hp;clear hp
 go_enter Tryz.func92,Tryz.ntmps92
 go_wp2_with fail
 go_loopw [9] (fun i wr=>∃ k:Nat,k≤l.length∧i=.int .i64 k∧Below w.heap.size w wr∧Hid (∀ j (hj:j<l.length),j<k→p l[j] (l.take j)=true)) (fun i _=>l.length - (intOf i).toNat)
 case atStart=>exact⟨0,Nat.zero_le _,rfl,Below.refl _ _,fun j hj h0=>absurd h0 (by omega)⟩
 case round =>
  obtain⟨k,hk,rfl,hbr,hs⟩:=hrel
  by_cases hlt:k<l.length
  · obtain ⟨b,off,hA,hb,x0,x1,x2,_⟩:=(h.below hbr).rack hlt
    subst hA
    have hltI:(k:Int)<(l.length:Int):=by omega
    have hkc:(k:Int)≤(c:Int):=by omega
    have hb2:=hbr.alloc hbr.size (.cells #[.string l[k].name,.int .i64 l[k].site,.int .i64 l[k].feed] 44)
    have hC:=fun n=>HP.out k hlt (World.drewN (wr.alloc (.cells #[.string l[k].name,.int .i64 l[k].site,.int .i64 l[k].feed] 44)) n) (AY hb2 n)
    cases hpk:p l[k] (l.take k)
    · have HV:=hide (BS (p:=p) hlt hpk)
      simp only[hpk] at hC
      have HC:=hide hC
      clear hC
      go_wp2_with fail
      go_region_with ((refine(HC.out 1).mono ?_;rintro e w1 ⟨rfl,hb1⟩))
      all_goals
       go_wp2_with fail
       go_ret
       exact⟨AJ (by rw[HV.out];rfl),(AY hb2 1).trans (hb1.mono (AY hb2 1).size)⟩
    · simp only[hpk] at hC
      have HC:=hide hC
      have HK:=hide hpk
      clear hC hpk
      go_wp2_with fail
      go_region_with ((refine(HC.out 1).mono ?_;rintro e w1 ⟨rfl,hb1⟩))
      all_goals
       go_wp2_with fail
       go_roundw
       case rel=>exact⟨k+1,by omega,by go_num,(AY hb2 1).trans (hb1.mono (AY hb2 1).size),fun j hj h1=>by
        rcases Nat.lt_or_ge j k with h2|h2
        · exact hs j hj h2
        · obtain rfl:j=k:=by omega
          exact HK⟩
       case measure=>simp[intOf];omega
  · have HF:=hide (Dg (p:=p) fun j hj=>hs j hj (by omega))
    go_wp2_with fail
    go_ret
    exact⟨AJ (by rw[HF.out];rfl),hbr⟩
theorem MC (g:Nat) (lb:Array Value) (eg:∀ args w,(callFunc g args).run Tryz.prog w=.ok (.enter g args) w) (p:Fq→List Fq→Bool) (A:Option Addr) (c:Nat) (l:List Fq) (w:World)
    (hl:l.length≤9223372036854775807) (hlc:l.length≤c) (h:Rows Hm 3 w w.heap.size A l)
    (hp:∀ (i:Nat) (_:i<l.length) (W:World),Below w.heap.size w W→Calls Tryz.prog g (#[.agg #[.string l[i].name,.int .i64 l[i].rack,.int .i64 l[i].cap],.slice A i c]++lb) W fun e w'=>e=.returned (.bool (p l[i] (l.take i)))∧Below W.heap.size W w') :
    Calls Tryz.prog 96 #[.slice A l.length c,.func (.func g) #[] lb] w fun e w'=>e=.returned (.bool (Bq p l))∧Below w.heap.size w w':=by
 have HP:=hide hp;clear hp
 go_enter Tryz.func96,Tryz.ntmps96
 go_wp2_with fail
 go_loopw [9] (fun i wr=>∃ k:Nat,k≤l.length∧i=.int .i64 k∧Below w.heap.size w wr∧Hid (∀ j (hj:j<l.length),j<k→p l[j] (l.take j)=true)) (fun i _=>l.length - (intOf i).toNat)
 case atStart=>exact⟨0,Nat.zero_le _,rfl,Below.refl _ _,fun j hj h0=>absurd h0 (by omega)⟩
 case round =>
  obtain⟨k,hk,rfl,hbr,hs⟩:=hrel
  by_cases hlt:k<l.length
  · obtain ⟨b,off,hA,hb,x0,x1,x2,_⟩:=(h.below hbr).mach hlt
    subst hA
    have hltI:(k:Int)<(l.length:Int):=by omega
    have hkc:(k:Int)≤(c:Int):=by omega
    have hb2:=hbr.alloc hbr.size (.cells #[.string l[k].name,.int .i64 l[k].rack,.int .i64 l[k].cap] 46)
    have hC:=fun n=>HP.out k hlt (World.drewN (wr.alloc (.cells #[.string l[k].name,.int .i64 l[k].rack,.int .i64 l[k].cap] 46)) n) (AY hb2 n)
    cases hpk:p l[k] (l.take k)
    · have HV:=hide (BS (p:=p) hlt hpk)
      simp only[hpk] at hC
      have HC:=hide hC
      clear hC
      go_wp2_with fail
      go_region_with ((refine(HC.out 1).mono ?_;rintro e w1 ⟨rfl,hb1⟩))
      all_goals
       go_wp2_with fail
       go_ret
       exact⟨AJ (by rw[HV.out];rfl),(AY hb2 1).trans (hb1.mono (AY hb2 1).size)⟩
    · simp only[hpk] at hC
      have HC:=hide hC
      have HK:=hide hpk
      clear hC hpk
      go_wp2_with fail
      go_region_with ((refine(HC.out 1).mono ?_;rintro e w1 ⟨rfl,hb1⟩))
      all_goals
       go_wp2_with fail
       go_roundw
       case rel=>exact⟨k+1,by omega,by go_num,(AY hb2 1).trans (hb1.mono (AY hb2 1).size),fun j hj h1=>by
        rcases Nat.lt_or_ge j k with h2|h2
        · exact hs j hj h2
        · obtain rfl:j=k:=by omega
          exact HK⟩
       case measure=>simp[intOf];omega
  · have HF:=hide (Dg (p:=p) fun j hj=>hs j hj (by omega))
    go_wp2_with fail
    go_ret
    exact⟨AJ (by rw[HF.out];rfl),hbr⟩
theorem QA (g:Nat) (lb:Array Value) (eg:∀ args w,(callFunc g args).run Tryz.prog w=.ok (.enter g args) w) (p:Co→List Co→Bool) (A:Option Addr) (c:Nat) (l:List Co) (w:World)
    (hl:l.length≤9223372036854775807) (hlc:l.length≤c) (h:Rows Eb 3 w w.heap.size A l)
    (hp:∀ (i:Nat) (_:i<l.length) (W:World),Below w.heap.size w W→Calls Tryz.prog g (#[.agg #[.int .i64 l[i].a,.int .i64 l[i].b,.int .i64 l[i].cap],.slice A i c]++lb) W fun e w'=>e=.returned (.bool (p l[i] (l.take i)))∧Below W.heap.size W w') :
    Calls Tryz.prog 99 #[.slice A l.length c,.func (.func g) #[] lb] w fun e w'=>e=.returned (.bool (Bq p l))∧Below w.heap.size w w':=by
 have HP:=hide hp;clear hp
 go_enter Tryz.func99,Tryz.ntmps99
 go_wp2_with fail
 go_loopw [9] (fun i wr=>∃ k:Nat,k≤l.length∧i=.int .i64 k∧Below w.heap.size w wr∧Hid (∀ j (hj:j<l.length),j<k→p l[j] (l.take j)=true)) (fun i _=>l.length - (intOf i).toNat)
 case atStart=>exact⟨0,Nat.zero_le _,rfl,Below.refl _ _,fun j hj h0=>absurd h0 (by omega)⟩
 case round =>
  obtain⟨k,hk,rfl,hbr,hs⟩:=hrel
  by_cases hlt:k<l.length
  · obtain ⟨b,off,hA,hb,x0,x1,x2⟩:=(h.below hbr).link hlt
    subst hA
    have hltI:(k:Int)<(l.length:Int):=by omega
    have hkc:(k:Int)≤(c:Int):=by omega
    have hb2:=hbr.alloc hbr.size (.cells #[.int .i64 l[k].a,.int .i64 l[k].b,.int .i64 l[k].cap] 130)
    have hC:=fun n=>HP.out k hlt (World.drewN (wr.alloc (.cells #[.int .i64 l[k].a,.int .i64 l[k].b,.int .i64 l[k].cap] 130)) n) (AY hb2 n)
    cases hpk:p l[k] (l.take k)
    · have HV:=hide (BS (p:=p) hlt hpk)
      simp only[hpk] at hC
      have HC:=hide hC
      clear hC
      go_wp2_with fail
      go_region_with ((refine(HC.out 1).mono ?_;rintro e w1 ⟨rfl,hb1⟩))
      all_goals
       go_wp2_with fail
       go_ret
       exact⟨AJ (by rw[HV.out];rfl),(AY hb2 1).trans (hb1.mono (AY hb2 1).size)⟩
    · simp only[hpk] at hC
      have HC:=hide hC
      have HK:=hide hpk
      clear hC hpk
      go_wp2_with fail
      go_region_with ((refine(HC.out 1).mono ?_;rintro e w1 ⟨rfl,hb1⟩))
      all_goals
       go_wp2_with fail
       go_roundw
       case rel=>exact⟨k+1,by omega,by go_num,(AY hb2 1).trans (hb1.mono (AY hb2 1).size),fun j hj h1=>by
        rcases Nat.lt_or_ge j k with h2|h2
        · exact hs j hj h2
        · obtain rfl:j=k:=by omega
          exact HK⟩
       case measure=>simp[intOf];omega
  · have HF:=hide (Dg (p:=p) fun j hj=>hs j hj (by omega))
    go_wp2_with fail
    go_ret
    exact⟨AJ (by rw[HF.out];rfl),hbr⟩
def Av(B:Nat)(w:World)(v:Value)(l:List Int):Prop:=w.ownsRow B 3 1 v l.length (l.map (.int .i64))
theorem Sj:(Tryz.prog.info? 3).map (fun i=>(i.zero,i.size,i.bytes))=some (some (.int .i64 0),1,8):=by kernel_rfl
theorem Av.nil_(B:Nat)(w:World):Av B w (.slice none 0 0) []:=World.ownsRow_nil _ _ _ _
theorem Av.new {B:Nat} (w:World) (l:List Int) (hB:B≤w.heap.size) (hl:l.length≤maxLen):Av B (w.alloc (.cells (l.map (Value.int .i64)).toArray 3)) (.slice (some ⟨w.heap.size,0,none⟩) l.length l.length) l:=by
 have:=World.ownsRow_lit (e:=3) (size:=1) w (l.map (Value.int .i64)).toArray l.length hB hl (by simp)
 simpa[Av] using this
theorem Av.kept{B:Nat}{w w':World}{v:Value}{l:List Int}(h:Av B w v l){row:Option Nat}(hg:w.grownBy w' row)(hne:v.ownBlock=none∨v.ownBlock≠row):Av B w' v l:=World.ownsRow.kept h hg hne
theorem Av.below {B:Nat} {w w':World} {v:Value} {l:List Int} (h:Av B w v l) (hb:Below w.heap.size w w'):Av B w' v l:=by
 refine h.kept (EJ hb none) ?_
 cases hv:v.ownBlock
 · exact .inl rfl
 · exact .inr (by simp)
theorem Av.alloc{B:Nat}{w:World}{v:Value}{l:List Int}(h:Av B w v l)(o:Obj):Av B (w.alloc o) v l:=World.ownsRow.alloc h o
theorem Av.lt{B:Nat}{w:World}{v:Value}{l:List Int}(h:Av B w v l):∀ k,v.ownBlock=some k→B≤k∧k<w.heap.size:=World.ownsRow.lt h
theorem Av.form {B:Nat} {w:World} {v:Value} {l:List Int} (h:Av B w v l):∃ A c,v=.slice A l.length c∧l.length≤c∧Ints w w.heap.size A l:=by
 have h2:=h
 rcases h2.2 with⟨rfl,h0⟩|⟨g,cap,cur,rfl,_,_,hc,_⟩
 · have:l=[]:=List.eq_nil_of_length_eq_zero h0
   subst this
   exact⟨none,0,rfl,Nat.le_refl _,Reads.none_⟩
 · exact⟨_,_,rfl,hc,Reads.of_own h⟩
theorem FN {ops:Array Oper} {rest:List Oper} {o:Oper} {a:Act} {Q:Exit→Act→World→Prop} {w:World} (hgd:o.guard=none) (s x:Operand)
    (ho:o.op=.call { callee:=.builtin .append,args:=#[s,x],argTypes:=#[47,47] })
    (base:Nat) (v:Value) (l:List Int) (hs:a.eval s=v) (hown:Av base w v l)
    (B:Nat) (A:Option Addr) (c:Nat) (m:List Int) (hx:a.eval x=.slice A m.length c) (hr:Ints w B A m)
    (hlen:l.length+m.length≤1099511627776) (hbase:base≤w.heap.size)
    (h:∀ v' w',Av base w' v' (l++m)→w.grownBy w' v.ownBlock→(v'.ownBlock=v.ownBlock∨v'.ownBlock=some w.heap.size)→wpList Tryz.prog ops Q rest (a.put o.dst v') w'):wpList Tryz.prog ops Q (o :: rest) a w:=by
 obtain⟨i0,hi,hz0,hz1,hz2⟩:=info_parts Sj
 refine wpList_plain hgd fun _ hK=>BZ w s x 47 ho base 3 i0 _ 1 8 Tryz.underlying47 hi hz0 hz1 hz2 rfl (by omega) v l.length (l.map (.int .i64)) hs hown B A m.length c (m.map (.int .i64)) hx hr ?_ ?_ ?_ hbase
  fun v' w' h2 h3 h4=>hK _ _ (h v' w' ?_ h3 h4)
 · intro u hu
   obtain⟨y,_,rfl⟩:=List.mem_map.1 hu
   rfl
 · unfold maxLen;omega
 · omega
 · unfold Av;rw[List.map_append,List.length_append];exact h2
theorem Ints.newRow2 (w:World) {b:Nat} (t:TypeId) (l:List Int) (hb:b=w.heap.size):Ints (w.alloc (.cells (l.map (Value.int .i64)).toArray t)) (w.heap.size+1) (some ⟨b,0,none⟩) l:=by
 subst hb
 have:=Reads.newRow w (l.map (Value.int .i64)).toArray t l.length 1 (by simp)
 simpa[Ints] using this
structure But (g B:Nat) (w w':World):Prop where
 os:w'.os=w.os
 tape:w'.tape=w.tape
 output:w'.output=w.output
 size:w.heap.size≤w'.heap.size
 block:∀ k,k<B→k≠g→w'.heap[k]? = w.heap[k]?
theorem But.refl(g B:Nat)(w:World):But g B w w:=⟨rfl,rfl,rfl,Nat.le_refl _,fun _ _ _=>rfl⟩
theorem But.trans {g B:Nat} {a b c:World} (h:But g B a b) (k:But g B b c):But g B a c :=
 ⟨k.os.trans h.os,k.tape.trans h.tape,k.output.trans h.output,Nat.le_trans h.size k.size,fun i hi hn=>(k.block i hi hn).trans (h.block i hi hn)⟩
theorem But.mono{g B B':Nat}{w w':World}(h:But g B w w')(hB:B'≤B):But g B' w w':=⟨h.os,h.tape,h.output,h.size,fun k hk hn=>h.block k (Nat.lt_of_lt_of_le hk hB) hn⟩
theorem But.ofBelow{g B:Nat}{w w':World}(h:Below B w w'):But g B w w':=⟨h.os,h.tape,h.output,h.size,fun k hk _=>h.block k hk⟩
theorem But.toBelow{g B:Nat}{w w':World}(h:But g B w w'):Below (min g B) w w':=⟨h.os,h.tape,h.output,h.size,fun k hk=>h.block k (by omega) (by omega)⟩
theorem But.below{g B:Nat}{w w':World}(h:But g B w w')(hg:g≤B):Below g w w':=⟨h.os,h.tape,h.output,h.size,fun k hk=>h.block k (by omega) (by omega)⟩
theorem But.cell{g B:Nat}{w w':World}(h:But g B w w'){p:Addr}(hp:p.block<B)(hn:p.block≠g):w'.cell? p=w.cell? p:=World.cell?_of_block (h.block p.block hp hn)
theorem But.blk{g B b:Nat}{w w':World}{t:TypeId}{cs:Array Value}(h:But g B w w')(hB:AB w b t cs)(hb:b<B)(hn:b≠g):AB w' b t cs:=(h.block b hb hn).trans hB
theorem But.grown{g:Nat}{w w':World}(h:But g w.heap.size w w'):w.grownBy w' (some g):=⟨h.os,h.tape,h.output,h.size,fun k hk hn=>h.block k hk (fun e=>hn (by rw[e]))⟩
theorem But.set_ {g B:Nat} (w:World) (i:Nat) (u:Value):But g B w (w.setCell ⟨g,i,none⟩ u) :=
 ⟨rfl,rfl,rfl,by simp[World.setCell],fun k _ hn=>Below.heap_setCell w ⟨g,i,none⟩ u k hn⟩
theorem But.ofGrown {g B:Nat} {w w':World} {row:Option Nat} (h:w.grownBy w' row) (hB:B≤w.heap.size) (hr:∀ k,row=some k→B≤k):But g B w w' :=
 ⟨h.os,h.tape,h.output,h.size,fun k hk _=>h.block k (by omega) (fun e=>by have:=hr k e.symm;omega)⟩
def Off(g:Nat)(A:Option Addr):Prop:=∀ ad,A=some ad→ad.block≠g
theorem Reads.but {w w':World} {B size n g:Nat} {A:Option Addr} {xs:List Value} (h:Reads w B size A n xs) (hA:Off g A) (hb:But g B w w'):Reads w' B size A n xs :=
 ⟨h.1,fun hn=>by
   obtain⟨ad,e,hlt,hc⟩:=h.2 hn
   exact⟨ad,e,hlt,fun j u hu=>(hb.cell (by rw[Ct];exact hlt) (by rw[Ct];exact hA ad e)).trans (hc j u hu)⟩⟩
theorem BI.but {B g:Nat} {w w':World} {v:Value} {l:List ByteArray} (h:BI B w v l) (hb:But g w.heap.size w w') (hg:g<B):BI B w' v l:=by
 refine h.kept hb.grown ?_
 cases hv:v.ownBlock
 · exact .inl rfl
 · refine .inr (fun e=>?_)
   have:=h.lt _ hv
   have e2:=Option.some.inj e
   omega
theorem Av.but {B g:Nat} {w w':World} {v:Value} {l:List Int} (h:Av B w v l) (hb:But g w.heap.size w w') (hg:g<B):Av B w' v l:=by
 refine h.kept hb.grown ?_
 cases hv:v.ownBlock
 · exact .inl rfl
 · refine .inr (fun e=>?_)
   have:=h.lt _ hv
   have e2:=Option.some.inj e
   omega
theorem AB.setCells_ {g:Nat} {t:TypeId}:∀ (vs:List Value) (o:Nat) (cs:Array Value) (w:World),AB w g t cs→∃ cs',AB (w.setCells g o vs) g t cs'∧cs'.size=cs.size∧∀ q,q<o→cs'[q]? = cs[q]?
 | [],_,cs,_,h=>⟨cs,h,rfl,fun _ _=>rfl⟩
 | v :: vs,o,cs,w,h=>by
   obtain⟨cs',h1,h2,h3⟩:=AB.setCells_ vs (o+1) _ _ (AB.set_ h o v)
   refine⟨cs',h1,by rw[h2];simp,fun q hq=>?_⟩
   rw[h3 q (by omega)]
   simp[show o≠q by omega]
theorem But.setCells_ {g B:Nat}:∀ (vs:List Value) (o:Nat) (w:World),But g B w (w.setCells g o vs)
 | [],_,w=>But.refl g B w
 | v :: vs,o,w=>(But.set_ w o v).trans (But.setCells_ vs (o+1) _)
end Go.Proofs.YtfemlajeomohhaaGreatDoor
