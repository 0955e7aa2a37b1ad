/-
  MP2 MP3 MFR: what the laws of package msg need of them.
-/
import Derived.Test.YtkblmloobkiloaaGreatDoorF00
import Derived.Test.YtkblmloobkiloaaGreatDoorF14
import Derived.Lib.ParseIntBCases
import Derived.Test.YtkblmloobkiloaaGreatDoorF03
import Derived.Test.YtkblmloobkiloaaGreatDoorTie
import Derived.ProofKit
import Derived.OpenShut
import Derived.LaidMore
import Derived.Lay
import Derived.SevenTiedAt
import Derived.Stop.Joined
import Derived.HandedShaped
import Derived.Lib.LaidU8
import Derived.Lib.LaidTab
import Derived.Shelf.Vars
import Derived.Test.YtkblmloobkiloaaGreatDoorF07
set_option maxRecDepth 100000
set_option maxHeartbeats 3200000
namespace Go.Proofs.YtkblmloobkiloaaGreatDoor
open Go.Lib (hid)
open Go.RowKit
theorem kG(c:UInt8)(w:World):Calls Tryz.prog 205 #[.int .u8 (c.toNat:Int)] w fun e w'=>e= .returned (.bool (dG c))∧w=w':=by
 have HE:=hid (show dG c=((decide (48≤c.toNat)&&decide (c.toNat≤57))||(decide (97≤c.toNat)&&decide (c.toNat≤102)))from rfl)
 generalize c.toNat=n at*
 by_cases h1:(48:Int)≤(n:Int)
 ·by_cases h2:(n:Int)≤57
  ·skip
   have HB:=hid (show dG c=true from by rw[HE.out];first|(exfalso;omega)|(rw[decide_eq_true (show 48≤n by omega),decide_eq_true (show n≤57 by omega)];rfl)|(rw[decide_eq_true (show 97≤n by omega),decide_eq_true (show n≤102 by omega)];simp)|(have e1:(decide (48≤n)&&decide (n≤57))=false:=(by rw[Bool.and_eq_false_iff,decide_eq_false_iff_not,decide_eq_false_iff_not];omega);have e2:(decide (97≤n)&&decide (n≤102))=false:=(by rw[Bool.and_eq_false_iff,decide_eq_false_iff_not,decide_eq_false_iff_not];omega);rw[e1,e2];rfl))
   go_enter Tryz.func205,Tryz.ntmps205
   go_wp2_with fail
   go_ret
   exact⟨cZ HB.out.symm,rfl⟩
  ·skip
   by_cases h3:(97:Int)≤(n:Int)
   ·by_cases h4:(n:Int)≤102
    ·skip
     have HB:=hid (show dG c=true from by rw[HE.out];first|(exfalso;omega)|(rw[decide_eq_true (show 48≤n by omega),decide_eq_true (show n≤57 by omega)];rfl)|(rw[decide_eq_true (show 97≤n by omega),decide_eq_true (show n≤102 by omega)];simp)|(have e1:(decide (48≤n)&&decide (n≤57))=false:=(by rw[Bool.and_eq_false_iff,decide_eq_false_iff_not,decide_eq_false_iff_not];omega);have e2:(decide (97≤n)&&decide (n≤102))=false:=(by rw[Bool.and_eq_false_iff,decide_eq_false_iff_not,decide_eq_false_iff_not];omega);rw[e1,e2];rfl))
     go_enter Tryz.func205,Tryz.ntmps205
     go_wp2_with fail
     go_ret
     exact⟨cZ HB.out.symm,rfl⟩
    ·skip
     have HB:=hid (show dG c=false from by rw[HE.out];first|(exfalso;omega)|(rw[decide_eq_true (show 48≤n by omega),decide_eq_true (show n≤57 by omega)];rfl)|(rw[decide_eq_true (show 97≤n by omega),decide_eq_true (show n≤102 by omega)];simp)|(have e1:(decide (48≤n)&&decide (n≤57))=false:=(by rw[Bool.and_eq_false_iff,decide_eq_false_iff_not,decide_eq_false_iff_not];omega);have e2:(decide (97≤n)&&decide (n≤102))=false:=(by rw[Bool.and_eq_false_iff,decide_eq_false_iff_not,decide_eq_false_iff_not];omega);rw[e1,e2];rfl))
     go_enter Tryz.func205,Tryz.ntmps205
     go_wp2_with fail
     go_ret
     exact⟨cZ HB.out.symm,rfl⟩
   ·skip
    have HB:=hid (show dG c=false from by rw[HE.out];first|(exfalso;omega)|(rw[decide_eq_true (show 48≤n by omega),decide_eq_true (show n≤57 by omega)];rfl)|(rw[decide_eq_true (show 97≤n by omega),decide_eq_true (show n≤102 by omega)];simp)|(have e1:(decide (48≤n)&&decide (n≤57))=false:=(by rw[Bool.and_eq_false_iff,decide_eq_false_iff_not,decide_eq_false_iff_not];omega);have e2:(decide (97≤n)&&decide (n≤102))=false:=(by rw[Bool.and_eq_false_iff,decide_eq_false_iff_not,decide_eq_false_iff_not];omega);rw[e1,e2];rfl))
    go_enter Tryz.func205,Tryz.ntmps205
    go_wp2_with fail
    go_ret
    exact⟨cZ HB.out.symm,rfl⟩
 ·skip
  by_cases h3:(97:Int)≤(n:Int)
  ·by_cases h4:(n:Int)≤102
   ·skip
    have HB:=hid (show dG c=true from by rw[HE.out];first|(exfalso;omega)|(rw[decide_eq_true (show 48≤n by omega),decide_eq_true (show n≤57 by omega)];rfl)|(rw[decide_eq_true (show 97≤n by omega),decide_eq_true (show n≤102 by omega)];simp)|(have e1:(decide (48≤n)&&decide (n≤57))=false:=(by rw[Bool.and_eq_false_iff,decide_eq_false_iff_not,decide_eq_false_iff_not];omega);have e2:(decide (97≤n)&&decide (n≤102))=false:=(by rw[Bool.and_eq_false_iff,decide_eq_false_iff_not,decide_eq_false_iff_not];omega);rw[e1,e2];rfl))
    go_enter Tryz.func205,Tryz.ntmps205
    go_wp2_with fail
    go_ret
    exact⟨cZ HB.out.symm,rfl⟩
   ·skip
    have HB:=hid (show dG c=false from by rw[HE.out];first|(exfalso;omega)|(rw[decide_eq_true (show 48≤n by omega),decide_eq_true (show n≤57 by omega)];rfl)|(rw[decide_eq_true (show 97≤n by omega),decide_eq_true (show n≤102 by omega)];simp)|(have e1:(decide (48≤n)&&decide (n≤57))=false:=(by rw[Bool.and_eq_false_iff,decide_eq_false_iff_not,decide_eq_false_iff_not];omega);have e2:(decide (97≤n)&&decide (n≤102))=false:=(by rw[Bool.and_eq_false_iff,decide_eq_false_iff_not,decide_eq_false_iff_not];omega);rw[e1,e2];rfl))
    go_enter Tryz.func205,Tryz.ntmps205
    go_wp2_with fail
    go_ret
    exact⟨cZ HB.out.symm,rfl⟩
  ·skip
   have HB:=hid (show dG c=false from by rw[HE.out];first|(exfalso;omega)|(rw[decide_eq_true (show 48≤n by omega),decide_eq_true (show n≤57 by omega)];rfl)|(rw[decide_eq_true (show 97≤n by omega),decide_eq_true (show n≤102 by omega)];simp)|(have e1:(decide (48≤n)&&decide (n≤57))=false:=(by rw[Bool.and_eq_false_iff,decide_eq_false_iff_not,decide_eq_false_iff_not];omega);have e2:(decide (97≤n)&&decide (n≤102))=false:=(by rw[Bool.and_eq_false_iff,decide_eq_false_iff_not,decide_eq_false_iff_not];omega);rw[e1,e2];rfl))
   go_enter Tryz.func205,Tryz.ntmps205
   go_wp2_with fail
   go_ret
   exact⟨cZ HB.out.symm,rfl⟩
theorem DF(c:UInt8)(w:World):Calls Tryz.prog 111 #[.int .u8 (c.toNat:Int)] w fun e w'=>e= .returned (.bool (isLet c))∧w=w':=by
 have HE:=hid (show isLet c=((decide (65≤c.toNat)&&decide (c.toNat≤90))||(decide (97≤c.toNat)&&decide (c.toNat≤122)))from rfl)
 generalize c.toNat=n at*
 by_cases h1:(65:Int)≤(n:Int)
 ·by_cases h2:(n:Int)≤90
  ·skip
   have HB:=hid (show isLet c=true from by rw[HE.out];first|(exfalso;omega)|(rw[decide_eq_true (show 65≤n by omega),decide_eq_true (show n≤90 by omega)];rfl)|(rw[decide_eq_true (show 97≤n by omega),decide_eq_true (show n≤122 by omega)];simp)|(have e1:(decide (65≤n)&&decide (n≤90))=false:=(by rw[Bool.and_eq_false_iff,decide_eq_false_iff_not,decide_eq_false_iff_not];omega);have e2:(decide (97≤n)&&decide (n≤122))=false:=(by rw[Bool.and_eq_false_iff,decide_eq_false_iff_not,decide_eq_false_iff_not];omega);rw[e1,e2];rfl))
   go_enter Tryz.func111,Tryz.ntmps111
   go_wp2_with fail
   go_ret
   exact⟨cZ HB.out.symm,rfl⟩
  ·skip
   by_cases h3:(97:Int)≤(n:Int)
   ·by_cases h4:(n:Int)≤122
    ·skip
     have HB:=hid (show isLet c=true from by rw[HE.out];first|(exfalso;omega)|(rw[decide_eq_true (show 65≤n by omega),decide_eq_true (show n≤90 by omega)];rfl)|(rw[decide_eq_true (show 97≤n by omega),decide_eq_true (show n≤122 by omega)];simp)|(have e1:(decide (65≤n)&&decide (n≤90))=false:=(by rw[Bool.and_eq_false_iff,decide_eq_false_iff_not,decide_eq_false_iff_not];omega);have e2:(decide (97≤n)&&decide (n≤122))=false:=(by rw[Bool.and_eq_false_iff,decide_eq_false_iff_not,decide_eq_false_iff_not];omega);rw[e1,e2];rfl))
     go_enter Tryz.func111,Tryz.ntmps111
     go_wp2_with fail
     go_ret
     exact⟨cZ HB.out.symm,rfl⟩
    ·skip
     have HB:=hid (show isLet c=false from by rw[HE.out];first|(exfalso;omega)|(rw[decide_eq_true (show 65≤n by omega),decide_eq_true (show n≤90 by omega)];rfl)|(rw[decide_eq_true (show 97≤n by omega),decide_eq_true (show n≤122 by omega)];simp)|(have e1:(decide (65≤n)&&decide (n≤90))=false:=(by rw[Bool.and_eq_false_iff,decide_eq_false_iff_not,decide_eq_false_iff_not];omega);have e2:(decide (97≤n)&&decide (n≤122))=false:=(by rw[Bool.and_eq_false_iff,decide_eq_false_iff_not,decide_eq_false_iff_not];omega);rw[e1,e2];rfl))
     go_enter Tryz.func111,Tryz.ntmps111
     go_wp2_with fail
     go_ret
     exact⟨cZ HB.out.symm,rfl⟩
   ·skip
    have HB:=hid (show isLet c=false from by rw[HE.out];first|(exfalso;omega)|(rw[decide_eq_true (show 65≤n by omega),decide_eq_true (show n≤90 by omega)];rfl)|(rw[decide_eq_true (show 97≤n by omega),decide_eq_true (show n≤122 by omega)];simp)|(have e1:(decide (65≤n)&&decide (n≤90))=false:=(by rw[Bool.and_eq_false_iff,decide_eq_false_iff_not,decide_eq_false_iff_not];omega);have e2:(decide (97≤n)&&decide (n≤122))=false:=(by rw[Bool.and_eq_false_iff,decide_eq_false_iff_not,decide_eq_false_iff_not];omega);rw[e1,e2];rfl))
    go_enter Tryz.func111,Tryz.ntmps111
    go_wp2_with fail
    go_ret
    exact⟨cZ HB.out.symm,rfl⟩
 ·skip
  by_cases h3:(97:Int)≤(n:Int)
  ·by_cases h4:(n:Int)≤122
   ·skip
    have HB:=hid (show isLet c=true from by rw[HE.out];first|(exfalso;omega)|(rw[decide_eq_true (show 65≤n by omega),decide_eq_true (show n≤90 by omega)];rfl)|(rw[decide_eq_true (show 97≤n by omega),decide_eq_true (show n≤122 by omega)];simp)|(have e1:(decide (65≤n)&&decide (n≤90))=false:=(by rw[Bool.and_eq_false_iff,decide_eq_false_iff_not,decide_eq_false_iff_not];omega);have e2:(decide (97≤n)&&decide (n≤122))=false:=(by rw[Bool.and_eq_false_iff,decide_eq_false_iff_not,decide_eq_false_iff_not];omega);rw[e1,e2];rfl))
    go_enter Tryz.func111,Tryz.ntmps111
    go_wp2_with fail
    go_ret
    exact⟨cZ HB.out.symm,rfl⟩
   ·skip
    have HB:=hid (show isLet c=false from by rw[HE.out];first|(exfalso;omega)|(rw[decide_eq_true (show 65≤n by omega),decide_eq_true (show n≤90 by omega)];rfl)|(rw[decide_eq_true (show 97≤n by omega),decide_eq_true (show n≤122 by omega)];simp)|(have e1:(decide (65≤n)&&decide (n≤90))=false:=(by rw[Bool.and_eq_false_iff,decide_eq_false_iff_not,decide_eq_false_iff_not];omega);have e2:(decide (97≤n)&&decide (n≤122))=false:=(by rw[Bool.and_eq_false_iff,decide_eq_false_iff_not,decide_eq_false_iff_not];omega);rw[e1,e2];rfl))
    go_enter Tryz.func111,Tryz.ntmps111
    go_wp2_with fail
    go_ret
    exact⟨cZ HB.out.symm,rfl⟩
  ·skip
   have HB:=hid (show isLet c=false from by rw[HE.out];first|(exfalso;omega)|(rw[decide_eq_true (show 65≤n by omega),decide_eq_true (show n≤90 by omega)];rfl)|(rw[decide_eq_true (show 97≤n by omega),decide_eq_true (show n≤122 by omega)];simp)|(have e1:(decide (65≤n)&&decide (n≤90))=false:=(by rw[Bool.and_eq_false_iff,decide_eq_false_iff_not,decide_eq_false_iff_not];omega);have e2:(decide (97≤n)&&decide (n≤122))=false:=(by rw[Bool.and_eq_false_iff,decide_eq_false_iff_not,decide_eq_false_iff_not];omega);rw[e1,e2];rfl))
   go_enter Tryz.func111,Tryz.ntmps111
   go_wp2_with fail
   go_ret
   exact⟨cZ HB.out.symm,rfl⟩
theorem LC(f:UInt8→Bool):∀(l:List UInt8) (k:Nat),(l.take k).all f=true→k≤l.length→(∀c,l[k]? =some c→f c=false)→l.takeWhile f=l.take k
 |l,0,_,_,h=>by
  cases l with
  |nil=>rfl
  |cons x l=>rw[List.takeWhile_cons,h x rfl];rfl
 | [],k+1,_,hk,_=>by simp at hk
 |x::l,k+1,ha,hk,h=>by
  rw[List.take_succ_cons,List.all_cons,Bool.and_eq_true]at ha
  rw[List.takeWhile_cons,ha.1,List.take_succ_cons,if_pos rfl,LC f l k ha.2 (by simpa using hk) (by simpa using h)]
def QH(w:World)(p:Nat):Nat:=match w.cell? ⟨p,1,none⟩with
 |some (.int _ z)=>z.toNat
 |_=>0
theorem ScS.at_{w:World}{p:Nat}{s:ByteArray}{a:Nat}(h:ScS w p s a):QH w p=a:=by
 have k1:w.cell? ⟨p,1,none⟩=some (.int .i64 (a:Int)):=h.1.cell 1
 unfold QH
 rw[k1]
 rfl
theorem byte_at(s:ByteArray)(a:Nat)(h:a<s.size):s.data.toList[a]? =some (s[a]'h):=by
 rw[Array.getElem?_toList]
 exact Array.getElem?_eq_getElem h
theorem Fq(s:ByteArray)(a b:Nat)(h:a≤b)(hb:b≤s.size):s.extract a b=ofL ((s.data.toList.drop a).take (b-a)):=by
 apply ByteArray.ext
 rw[←Array.toList_inj]
 simp only[ofL,ByteArray.data_extract,Array.toList_extract]
theorem tq{w:World}{p:Nat}{s:ByteArray}{at_ K:Nat}(f:UInt8→Bool)(hent:∀args w,Sem.run Tryz.prog (callFunc K args) w= .ok (.enter K args) w)(hf:∀(c:UInt8) w,Calls Tryz.prog K #[.int .u8 (c.toNat:Int)] w fun e w'=>e= .returned (.bool (f c))∧w=w')(h:ScS w p s at_):
  Calls Tryz.prog 110 #[.pointer (some ⟨p,0,none⟩),.func (.func K) #[] #[]] w fun e w'=>e= .returned (.string (ofL ((s.data.toList.drop at_).takeWhile f)))∧ScS w' p s (at_+((s.data.toList.drop at_).takeWhile f).length)∧Off (fun i=>i=p) w w':=by
 have HS:=hid h
 have HZ:=hid h.2.2
 have HKC:=hid hf
 have k1:w.cell? ⟨p,1,none⟩=some (.int .i64 (at_:Int)):=h.1.cell 1
 clear h hf
 go_enter Tryz.func110,Tryz.ntmps110
 go_upto_region 2 with(fail)
 clear k1
 go_loopw [] (fun wr=>∃k:Nat,ScS wr p s (at_+k)∧((s.data.toList.drop at_).take k).all f=true∧Off (fun i=>i=p) w wr) (fun wr=>s.size-QH wr p)
 case atStart=>exact⟨0,HS.out,by simp,Off.refl _ _⟩
 case round=>
  obtain⟨k,hs,ha,ho⟩:=hrel
  generalize hak:at_+k=a at*
  have HAK:=hid hak;clear hak
  have HSR:=hid hs
  have HAL:=hid ha
  have HSD:=hid (hs.below (aC wr))
  have haz:a≤16777216:=Nat.le_trans hs.2.1 hs.2.2
  have HOD:=hid ho.drew
  have HLE:=hid hs.2.1
  have k0:wr.cell? ⟨p,0,none⟩=some (.string s):=hs.1.cell 0
  have k1:wr.cell? ⟨p,1,none⟩=some (.int .i64 (a:Int)):=hs.1.cell 1
  clear hs ha ho
  by_cases hlt:a<s.size
  ·obtain⟨c,hc⟩:∃c,c=s[a]'hlt:=⟨_,rfl⟩
   have HC:=hid hc
   have HCA:=hid (show s.data.toList[a]? =some c from by rw[hc];exact byte_at s a hlt)
   have HLT:=hid hlt
   clear hc
   cases hfc:f c with
   |true=>
    have HFC:=hid hfc;clear hfc
    go_upto_region 2 with(fail)
    refine wp_region_held_drew (S:=fun wx=>wx.cell? ⟨p,0,none⟩=some (.string s)∧wx.cell? ⟨p,1,none⟩=some (.int .i64 (a:Int))) (by kernel_rfl) ⟨k0,k1⟩ (fun hHeld=> ?_)
    generalize wr.drew=wd at hHeld HSD HOD⊢
    refine tk 10 0 (.pointer (some ⟨p,0,none⟩)) ?_
    refine tk 11 1 (.pointer (some ⟨p,0,none⟩)) ?_
    refine tk 12 2 (.pointer (some ⟨p,1,none⟩)) ?_
    refine tk2 13 3 (.int .i64 (a:Int)) rfl (fun wq hSw=>by have k1:=hSw.2;go_simp) ?_
    refine tk 14 4 (.pointer (some ⟨p,0,none⟩)) ?_
    refine tk 15 5 (.pointer (some ⟨p,0,none⟩)) ?_
    refine tk 16 6 (.pointer (some ⟨p,0,none⟩)) ?_
    refine tk2 17 7 (.string s) rfl (fun wq hSw=>by have k0:=hSw.1;go_simp) ?_
    refine tk 18 8 (.int .i64 (s.size:Int)) ?_
    refine tk 19 9 (.bool true) ?_
    refine tk 20 10 (.bool true) ?_
    refine tk 21 11 (.func (.func K) #[] #[]) ?_
    refine tk 22 12 (.pointer (some ⟨p,0,none⟩)) ?_
    refine tk 23 13 (.pointer (some ⟨p,0,none⟩)) ?_
    refine tk 24 14 (.pointer (some ⟨p,0,none⟩)) ?_
    refine tk2 25 15 (.string s) rfl (fun wq hSw=>by have k0:=hSw.1;go_simp) ?_
    refine tk 26 16 (.pointer (some ⟨p,0,none⟩)) ?_
    refine tk 27 17 (.pointer (some ⟨p,0,none⟩)) ?_
    refine tk 28 18 (.pointer (some ⟨p,1,none⟩)) ?_
    refine tk2 29 19 (.int .i64 (a:Int)) rfl (fun wq hSw=>by have k1:=hSw.2;go_simp) ?_
    refine tk2 30 20 (.int .u8 (c.toNat:Int)) rfl (fun wq hSw=>by have hc:=HC.out;go_simp) ?_
    refine wpAnyH_ready (rs:=[21]) (by kernel_rfl) (by simp) ?_
    refine AllReadyH.cons rfl (fun K hK=> ?_) AllReadyH.nil
    rw[if_pos (by rfl)]
    go_simp
    (with_reducible refine(HKC.out c wd).mono ?_)
    rintro e w' ⟨rfl,rfl⟩
    rw[HFC.out]
    dsimp only
    refine hK.out _ _ hHeld (fun hHeld=> ?_)
    clear hK
    refine tk 32 22 (.bool true) ?_
    refine wpAnyH_done (by kernel_rfl) ?_ _
    clear hHeld
    have k0:wd.cell? ⟨p,0,none⟩=some (.string s):=HSD.out.1.cell 0
    have k1:wd.cell? ⟨p,1,none⟩=some (.int .i64 (a:Int)):=HSD.out.1.cell 1
    have z1:wd.frozen? ⟨p,1,none⟩=false:=HSD.out.1.frozen 1
    have HBK:=hid (show Blk (wd.setCell ⟨p,1,none⟩ (.int .i64 ((a:Int)+1))) p 114 #[.string s,.int .i64 ((a+1:Nat):Int)]from by
     have h:=HSD.out.1.aW 1 (.int .i64 ((a:Int)+1))
     rw[show((a+1:Nat):Int)=(a:Int)+1 from by omega]
     exact h)
    have HOF:=hid (HOD.out.setCell (p:=⟨p,1,none⟩) rfl (.int .i64 ((a:Int)+1)))
    go_wp2_with fail
    clear k0 k1 z1
    generalize wd.setCell ⟨p,1,none⟩ (.int .i64 ((a:Int)+1))=w9 at HBK HOF⊢
    have HS9:=hid (show ScS w9 p s (a+1)from⟨HBK.out,HLT.out,HZ.out⟩)
    go_roundw
    case rel=>
     refine⟨k+1, ?_, ?_,HOF.out⟩
     ·rw[show at_+(k+1)=a+1 from by have:=HAK.out;omega]
      exact HS9.out
     ·rw[List.take_add_one,List.getElem?_drop,HAK.out,HCA.out,Option.toList_some,List.all_append,HAL.out]
      simp[HFC.out]
    case measure=>
     rw[HSR.out.at_,HS9.out.at_]
     have:=HLT.out
     omega
   |false=>
    have HFC:=hid hfc;clear hfc
    go_upto_region 2 with(fail)
    refine wp_region_held_drew (S:=fun wx=>wx.cell? ⟨p,0,none⟩=some (.string s)∧wx.cell? ⟨p,1,none⟩=some (.int .i64 (a:Int))) (by kernel_rfl) ⟨k0,k1⟩ (fun hHeld=> ?_)
    generalize wr.drew=wd at hHeld HSD HOD⊢
    refine tk 10 0 (.pointer (some ⟨p,0,none⟩)) ?_
    refine tk 11 1 (.pointer (some ⟨p,0,none⟩)) ?_
    refine tk 12 2 (.pointer (some ⟨p,1,none⟩)) ?_
    refine tk2 13 3 (.int .i64 (a:Int)) rfl (fun wq hSw=>by have k1:=hSw.2;go_simp) ?_
    refine tk 14 4 (.pointer (some ⟨p,0,none⟩)) ?_
    refine tk 15 5 (.pointer (some ⟨p,0,none⟩)) ?_
    refine tk 16 6 (.pointer (some ⟨p,0,none⟩)) ?_
    refine tk2 17 7 (.string s) rfl (fun wq hSw=>by have k0:=hSw.1;go_simp) ?_
    refine tk 18 8 (.int .i64 (s.size:Int)) ?_
    refine tk 19 9 (.bool true) ?_
    refine tk 20 10 (.bool true) ?_
    refine tk 21 11 (.func (.func K) #[] #[]) ?_
    refine tk 22 12 (.pointer (some ⟨p,0,none⟩)) ?_
    refine tk 23 13 (.pointer (some ⟨p,0,none⟩)) ?_
    refine tk 24 14 (.pointer (some ⟨p,0,none⟩)) ?_
    refine tk2 25 15 (.string s) rfl (fun wq hSw=>by have k0:=hSw.1;go_simp) ?_
    refine tk 26 16 (.pointer (some ⟨p,0,none⟩)) ?_
    refine tk 27 17 (.pointer (some ⟨p,0,none⟩)) ?_
    refine tk 28 18 (.pointer (some ⟨p,1,none⟩)) ?_
    refine tk2 29 19 (.int .i64 (a:Int)) rfl (fun wq hSw=>by have k1:=hSw.2;go_simp) ?_
    refine tk2 30 20 (.int .u8 (c.toNat:Int)) rfl (fun wq hSw=>by have hc:=HC.out;go_simp) ?_
    refine wpAnyH_ready (rs:=[21]) (by kernel_rfl) (by simp) ?_
    refine AllReadyH.cons rfl (fun K hK=> ?_) AllReadyH.nil
    rw[if_pos (by rfl)]
    go_simp
    (with_reducible refine(HKC.out c wd).mono ?_)
    rintro e w' ⟨rfl,rfl⟩
    rw[HFC.out]
    dsimp only
    refine hK.out _ _ hHeld (fun hHeld=> ?_)
    clear hK
    refine tk 32 22 (.bool false) ?_
    refine wpAnyH_done (by kernel_rfl) ?_ _
    clear hHeld
    have HTW:=hid (LC f (s.data.toList.drop at_) k HAL.out (by rw[List.length_drop,Array.length_toList];have:=HAK.out;have:=HLE.out;show k≤s.size-at_;omega) (by
     intro c' hc'
     rw[List.getElem?_drop,HAK.out]at hc'
     rw[HCA.out]at hc'
     injection hc' with hc'
     rw[←hc']
     exact HFC.out))
    have QI:=hid (Fq s at_ a (by have:=HAK.out;omega) HLE.out)
    have QJ:=hid (show a-at_=k from by have:=HAK.out;omega)
    have HTL:=hid (show((s.data.toList.drop at_).take k).length=k from by rw[List.length_take,List.length_drop,Array.length_toList];have:=HAK.out;have:=HLE.out;show min k (s.size-at_)=k;omega)
    have k0:wd.cell? ⟨p,0,none⟩=some (.string s):=HSD.out.1.cell 0
    have k1:wd.cell? ⟨p,1,none⟩=some (.int .i64 (a:Int)):=HSD.out.1.cell 1
    have j0:wd.drew.cell? ⟨p,0,none⟩=some (.string s):=HSD.out.1.cell 0
    have j1:wd.drew.cell? ⟨p,1,none⟩=some (.int .i64 (a:Int)):=HSD.out.1.cell 1
    have hla:at_≤a:=by have:=HAK.out;omega
    have hle:=HLE.out
    go_upto_region 4 with(fail)
    go_region
    go_wp2_with fail
    go_ret
    rw[HTW.out,HTL.out,HAK.out,←QJ.out,←QI.out]
    exact⟨rfl,HSD.out.below (aC wd),HOD.out.drew⟩
  ·have hge:¬(a:Int)<(s.size:Int):=by omega
   have HGE:=hid hlt
   clear hlt
   go_upto_region 2 with(fail)
   refine wp_region_held_drew (S:=fun wx=>wx.cell? ⟨p,0,none⟩=some (.string s)∧wx.cell? ⟨p,1,none⟩=some (.int .i64 (a:Int))) (by kernel_rfl) ⟨k0,k1⟩ (fun hHeld=> ?_)
   generalize wr.drew=wd at hHeld HSD HOD⊢
   refine tk 10 0 (.pointer (some ⟨p,0,none⟩)) ?_
   refine tk 11 1 (.pointer (some ⟨p,0,none⟩)) ?_
   refine tk 12 2 (.pointer (some ⟨p,1,none⟩)) ?_
   refine tk2 13 3 (.int .i64 (a:Int)) rfl (fun wq hSw=>by have k1:=hSw.2;go_simp) ?_
   refine tk 14 4 (.pointer (some ⟨p,0,none⟩)) ?_
   refine tk 15 5 (.pointer (some ⟨p,0,none⟩)) ?_
   refine tk 16 6 (.pointer (some ⟨p,0,none⟩)) ?_
   refine tk2 17 7 (.string s) rfl (fun wq hSw=>by have k0:=hSw.1;go_simp) ?_
   refine tk 18 8 (.int .i64 (s.size:Int)) ?_
   refine tk 19 9 (.bool false) ?_
   refine tk 20 10 (.bool false) ?_
   refine tkU 21 11 ?_
   refine tkU 22 12 ?_
   refine tkU 23 13 ?_
   refine tkU 24 14 ?_
   refine tkU 25 15 ?_
   refine tkU 26 16 ?_
   refine tkU 27 17 ?_
   refine tkU 28 18 ?_
   refine tkU 29 19 ?_
   refine tkU 30 20 ?_
   refine tkU 31 21 ?_
   refine tk 32 22 (.bool false) ?_
   refine wpAnyH_done (by kernel_rfl) ?_ _
   clear hHeld
   have HTW:=hid (LC f (s.data.toList.drop at_) k HAL.out (by rw[List.length_drop,Array.length_toList];have:=HAK.out;have:=HLE.out;show k≤s.size-at_;omega) (by
    intro c' hc'
    rw[List.getElem?_drop,HAK.out]at hc'
    rw[List.getElem?_eq_none (by rw[Array.length_toList];have:=HGE.out;show s.size≤a;omega)]at hc'
    cases hc'))
   have QI:=hid (Fq s at_ a (by have:=HAK.out;omega) HLE.out)
   have QJ:=hid (show a-at_=k from by have:=HAK.out;omega)
   have HTL:=hid (show((s.data.toList.drop at_).take k).length=k from by rw[List.length_take,List.length_drop,Array.length_toList];have:=HAK.out;have:=HLE.out;show min k (s.size-at_)=k;omega)
   have k0:wd.cell? ⟨p,0,none⟩=some (.string s):=HSD.out.1.cell 0
   have k1:wd.cell? ⟨p,1,none⟩=some (.int .i64 (a:Int)):=HSD.out.1.cell 1
   have j0:wd.drew.cell? ⟨p,0,none⟩=some (.string s):=HSD.out.1.cell 0
   have j1:wd.drew.cell? ⟨p,1,none⟩=some (.int .i64 (a:Int)):=HSD.out.1.cell 1
   have hla:at_≤a:=by have:=HAK.out;omega
   have hle:=HLE.out
   go_upto_region 4 with(fail)
   go_region
   go_wp2_with fail
   go_ret
   rw[HTW.out,HTL.out,HAK.out,←QJ.out,←QI.out]
   exact⟨rfl,HSD.out.below (aC wd),HOD.out.drew⟩
def SE(w:World):Prop:=(∃ev,w.cell? ⟨1,0,none⟩=some ev∧(ev= .nilIface∨∃te pe,ev= .iface te pe))∧∃ev,w.cell? ⟨2,0,none⟩=some ev∧(ev= .nilIface∨∃te pe,ev= .iface te pe)
theorem SE.low{w w':World}{B:Nat}(h:SE w)(hb:Below B w w')(hB:8≤B):SE w':=by
 obtain⟨⟨e1,h1,h2⟩,⟨e3,h3,h4⟩⟩:=h
 exact⟨⟨e1,(hb.cell (p:=⟨1,0,none⟩) (Nat.lt_of_lt_of_le (show 1<8 by decide) hB)).trans h1,h2⟩,⟨e3,(hb.cell (p:=⟨2,0,none⟩) (Nat.lt_of_lt_of_le (show 2<8 by decide) hB)).trans h3,h4⟩⟩
theorem QK(l:List UInt8):∀acc:Nat,acc≤l.foldl (fun n c=>n*10+(c.toNat-48)) acc:=by
 induction l with
 |nil=>intro acc;exact Nat.le_refl _
 |cons c l ih=>
  intro acc
  have:=ih (acc*10+(c.toNat-48))
  rw[List.foldl_cons]
  omega
theorem qJ:∀(l:List UInt8) (acc:Nat),l.all iT=true→acc≤18446744073709551615→
  Lib.parseUintM 18446744073709551615 acc l=if l.foldl (fun n c=>n*10+(c.toNat-48)) acc≤18446744073709551615 then .ok (l.foldl (fun n c=>n*10+(c.toNat-48)) acc)else .range
 | [],acc,_,h=>by
  rw[List.foldl_nil,if_pos h]
  rfl
 |c::r,acc,ha,h=>by
  rw[List.all_cons,Bool.and_eq_true]at ha
  have hc:(decide (48≤c.toNat)&&decide (c.toNat≤57))=true:=ha.1
  rw[Bool.and_eq_true]at hc
  have h1:=of_decide_eq_true hc.1
  have h2:=of_decide_eq_true hc.2
  have hg:=QK r (acc*10+(c.toNat-48))
  unfold Lib.parseUintM
  rw[if_pos ⟨h1,h2⟩,List.foldl_cons]
  by_cases h3:1844674407370955162≤acc
  ·rw[if_pos h3,if_neg (by omega)]
  ·rw[if_neg h3]
   by_cases h4:18446744073709551615<acc*10+(c.toNat-48)
   ·rw[if_pos h4,if_neg (by omega)]
   ·rw[if_neg h4]
    exact qJ r _ ha.2 (by omega)
theorem yM(l:List UInt8)(hne:l≠ [])(ha:l.all iT=true):Lib.parseUintB 64 l=if mZ l≤18446744073709551615 then .ok (mZ l)else .range:=by
 unfold Lib.parseUintB
 rw[if_neg hne]
 exact qJ l 0 ha (by omega)
theorem LD(f:UInt8→Bool)(l:List UInt8):(l.takeWhile f).all f=true:=by
 induction l with
 |nil=>rfl
 |cons x l ih=>
  rw[List.takeWhile_cons]
  cases h:f x with
  |true=>rw[if_pos rfl,List.all_cons,h,ih];rfl
  |false=>rfl
theorem LG(f:UInt8→Bool)(l:List UInt8):(l.takeWhile f).length≤l.length:=(List.takeWhile_sublist f).length_le
abbrev TM:Nat→Ending→World→Prop:=fun n e _=>e= .returned (.int .u64 (n:Int))
theorem Ov(s:ByteArray)(hlim:s.size≤281474976710656)(h:s.data.toList=[])(ev:Value)(w:World)(hv:w.cell? ⟨1,0,none⟩=some ev)(hev:ev= .nilIface∨∃te pe,ev= .iface te pe):
  Calls Tryz.prog 189 #[.string s,.int .i64 10,.int .i64 64] w fun e w'=>∃N,e= .returned (.tuple #[.int .u64 0,.iface 239 (.pointer (some ⟨N,0,none⟩))])∧w.heap.size≤N∧w'.heap[N]? =some (.cells #[.string ⟨#[80,97,114,115,101,85,105,110,116]⟩,.string s,ev] 252 (0,0))∧Below w.heap.size w w':=Any.strconv_ParseUint_10_at64_syntax Tryz.laysPu14 s hlim (by rw[h];rfl) ev w hv hev
theorem dO{w:World}{p:Nat}{s:ByteArray}{at_:Nat}(most:Nat)(hm:most<18446744073709551616)(hse:SE w)(h8:8≤p)(hw8:8≤w.heap.size)(h:ScS w p s at_):
  Calls Tryz.prog 113 #[.pointer (some ⟨p,0,none⟩),.int .u64 (most:Int)] w (dW p s TM (fZ most (s.data.toList.drop at_)) w):=by
 have hent:=au (k:=188) Tryz.func188 (by kernel_rfl) rfl
 have HR:=hid (tq iT hent DC h)
 have HZ:=hid h.2
 have k1:w.cell? ⟨p,1,none⟩=some (.int .i64 (at_:Int)):=h.1.cell 1
 have HSE:=hid (And.intro hse (And.intro h8 hw8))
 clear h hse h8 hw8 hent
 go_enter Tryz.func113,Tryz.ntmps113
 go_wp2_with fail
 refine HR.out.mono ?_
 rintro e w1 ⟨rfl,hs,ho⟩
 have HS1:=hid hs
 have HO1:=hid ho
 have HE1:=hid (HSE.out.1.low (ho.below (B:=8) (fun i hi=>by have:=HSE.out.2.1;have hi:i=p:=hi;omega) HSE.out.2.2) (Nat.le_refl 8))
 clear hs ho k1 HR
 obtain⟨l,hl⟩:∃l,l=s.data.toList.drop at_:=⟨_,rfl⟩
 rw[←hl]at HS1⊢
 have hll:l.length=s.size-at_:=by rw[hl,List.length_drop,Array.length_toList];rfl
 have HL:=hid hl
 obtain⟨D,hD⟩:∃D,D=l.takeWhile iT:=⟨_,rfl⟩
 rw[←hD]at HS1⊢
 have HDD:=hid (show D.all iT=true from by rw[hD];exact LD _ _)
 have hdl:D.length≤l.length:=by rw[hD];exact LG _ _
 have HPN:=hid (show fZ most l=if D=[]∨(2≤D.length∧D.head?=some 48)∨most<mZ D then .error l.length else .ok (mZ D,l.drop D.length)from by rw[hD];rfl)
 have Bq:=hid (show((s.size:Int)-(l.length:Int))=(at_:Int)from by have:=HZ.out;omega)
 have HOK:=hid (show∀w':World,Below w1.heap.size w1 w'→Off (fun i=>i=p) w w'∧∃a,ScS w' p s a∧s.data.toList.drop a=l.drop D.length from fun w' hb=>⟨HO1.out.trans (Off.of_below hb),at_+D.length,HS1.out.below hb,by rw[HL.out,List.drop_drop]⟩)
 obtain⟨X,hX⟩:∃X,X=ofL D:=⟨_,rfl⟩
 have hXs:X.size=D.length:=by rw[hX,dU]
 have HXL:=hid (show X.data.toList=D from by rw[hX];simp[ofL])
 have HXZ:=hid (show X.size≤281474976710656 from by have:=HZ.out;omega)
 rw[←hX]
 clear hX hD hl
 by_cases h0:D=[]
 ·have HP:=hid (show fZ most l= .error l.length from by rw[HPN.out,if_pos (.inl h0)])
  obtain⟨ev,hv,hev⟩:=HE1.out.1
  go_wp2_with fail
  refine(Ov X HXZ.out (by rw[HXL.out,h0]) ev w1 hv hev).mono ?_
  rintro e w2 ⟨N,rfl, -, -,hb⟩
  have HB:=hid hb
  clear hb hv hev h0
  go_wp2_with fail
  refine⟨rfl,(HOK.out _ HB.out).1, ?_⟩
  rw[←HL.out,HP.out]
  show _=d_ _
  rw[Bq.out]
  rfl
 ·have TN:=hid (yM D h0 HDD.out)
  by_cases hr:mZ D≤18446744073709551615
  ·have hpos:0<X.size:=by rw[hXs];exact List.length_pos_iff.2 h0
   have HC:=hid (Tryz.strconv_ParseUint_10_at64_ok X (by have:=HXZ.out;omega) (mZ D) (by rw[HXL.out,TN.out,if_pos hr]) w1)
   have HBW:=hid (Lib.bytesWorld_below w1 5 X)
   obtain⟨c,hc⟩:∃c,c=X[0]'hpos:=⟨_,rfl⟩
   have HHD:=hid (show D.head?=some c from by
    rw[hc,←HXL.out,List.head?_eq_getElem?]
    exact byte_at X 0 hpos)
   have hidx:X[0]'hpos=c:=hc.symm
   clear hc
   generalize mZ D=v at*
   by_cases hv:most<v
   ·have HP:=hid (show fZ most l= .error l.length from by rw[HPN.out,if_pos (.inr (.inr hv))])
    have hvi:(v:Int)>(most:Int):=by omega
    clear hv
    go_wp2_with fail
    refine HC.out.mono ?_
    rintro e w2 ⟨rfl,hb⟩
    have HB:=hid (show Below w1.heap.size w1 w2 from by rcases hb with rfl|rfl;exact Below.refl _ _;exact HBW.out)
    clear hb
    go_wp2_with fail
    refine⟨rfl,(HOK.out _ HB.out).1, ?_⟩
    rw[←HL.out,HP.out]
    show _=d_ _
    rw[Bq.out]
    rfl
   ·have hvi:¬(v:Int)>(most:Int):=by omega
    have HV:=hid hv
    clear hv
    by_cases hcz:c.toNat=48∧2≤D.length
    ·have HP:=hid (show fZ most l= .error l.length from by rw[HPN.out,if_pos (.inr (.inl ⟨hcz.2,by rw[HHD.out,show c=48 from UInt8.toNat_inj.1 hcz.1]⟩))])
     have hcb:((c.toNat:Int)==48)=true:=by rw[beq_iff_eq];omega
     have hl1:(X.size:Int)>1:=by omega
     clear hcz
     go_wp2_with fail
     refine HC.out.mono ?_
     rintro e w2 ⟨rfl,hb⟩
     have HB:=hid (show Below w1.heap.size w1 w2 from by rcases hb with rfl|rfl;exact Below.refl _ _;exact HBW.out)
     clear hb
     go_wp2_with fail
     refine⟨rfl,(HOK.out _ HB.out).1, ?_⟩
     rw[←HL.out,HP.out]
     show _=d_ _
     rw[Bq.out]
     rfl
    ·have HP:=hid (show fZ most l= .ok (v,l.drop D.length)from by
      rw[HPN.out,if_neg]
      rintro(h|⟨h,h'⟩|h)
      ·exact h0 h
      ·rw[HHD.out]at h'
       injection h' with h'
       exact hcz ⟨by rw[h'];rfl,h⟩
      ·exact HV.out h)
     have hpost:∀(e:Ending) (w2:World),e= .returned (.int .u64 (v:Int))→Below w1.heap.size w1 w2→dW p s TM (fZ most l) w e w2:=by
      rintro e w2 rfl hb
      refine⟨(HOK.out _ hb).1, ?_⟩
      rw[HP.out]
      exact⟨rfl,(HOK.out _ hb).2⟩
     have Px:=hid hpost
     clear hpost
     by_cases TQ:c.toNat=48
     ·have hcb:((c.toNat:Int)==48)=true:=by rw[beq_iff_eq];omega
      have hl1:¬(X.size:Int)>1:=by omega
      clear hcz TQ
      go_wp2_with fail
      refine HC.out.mono ?_
      rintro e w2 ⟨rfl,hb⟩
      have HB:=hid (show Below w1.heap.size w1 w2 from by rcases hb with rfl|rfl;exact Below.refl _ _;exact HBW.out)
      clear hb
      go_wp2_with fail
      go_ret
      rw[←HL.out]
      exact Px.out _ _ rfl HB.out
     ·have hcb:((c.toNat:Int)==48)=false:=by rw[beq_eq_false_iff_ne];omega
      clear hcz TQ
      go_wp2_with fail
      refine HC.out.mono ?_
      rintro e w2 ⟨rfl,hb⟩
      have HB:=hid (show Below w1.heap.size w1 w2 from by rcases hb with rfl|rfl;exact Below.refl _ _;exact HBW.out)
      clear hb
      go_wp2_with fail
      go_ret
      rw[←HL.out]
      exact Px.out _ _ rfl HB.out
  ·have HP:=hid (show fZ most l= .error l.length from by rw[HPN.out,if_pos (.inr (.inr (by omega)))])
   obtain⟨ev,hv,hev⟩:=HE1.out.2
   go_wp2_with fail
   refine(Tryz.strconv_ParseUint_10_at64_range X HXZ.out (by rw[HXL.out,TN.out,if_neg hr]) ev w1 hv hev).mono ?_
   rintro e w2 ⟨N,rfl, -, -,hb⟩
   have HB:=hid hb
   clear hb hv hev h0 hr
   go_wp2_with fail
   refine⟨rfl,(HOK.out _ HB.out).1, ?_⟩
   rw[←HL.out,HP.out]
   show _=d_ _
   rw[Bq.out]
   rfl
end Go.Proofs.YtkblmloobkiloaaGreatDoor
namespace Go.Proofs.YtkblmloobkiloaaGreatDoor
open Go.Lib (hid)
open Go.ChangeShapes Go.WideShapes Go.ChangeAt Go.RowKit
section
variable {H:Type} {enc:TypeId×Value→H}
end
theorem Wi:ownKnob Tryz.prog.godebug=none:=by kernel_rfl
theorem MX:laidOutB Tryz.prog=true:=by kernel_rfl
theorem MZ:(Rows.laid_unicode_utf8_first:DataW Unit)=Lib.firstData:=by kernel_rfl
theorem Jz:(Rows.laid_unicode_utf8_acceptRanges:DataW Unit)=Lib.acceptData:=by kernel_rfl
section
variable {H:Type} {enc:TypeId×Value→H}
theorem xU{a:Assume}{C:Checked}{os:Os}{f:FuncId}{fn:Func}{s:ChangeSpec}{conds:List PathCond}{apart fresh handsOn again:Bool}{X:World→Array Value→Prop}
  (hX:∀(w w':World) (args:Array Value),w.heap=w'.heap→X w args→X w' args)
  (own:ownKnob C.prog.godebug=none) (started:os.Started) (noInit:C.prog.inits.idxOf? f=none) (hfn:C.prog.funcs[f]? =some fn)
  (witness:∃(w:World) (tape:Tape) (i:Input),w.os=os∧(w.forCall tape i).Shaped C.prog∧i.vars=[]∧Input.okWide C.prog (w.forCall tape i) .any w.heap.size f i∧
   ((s.pre enc C.prog fn conds apart (w.forCall tape i).memory i.args∧X (w.forCall tape i).memory i.args)∧sizedMet enc C.prog fn (OpenSpec.ofChange s) apart (w.forCall tape i).memory i.args)∧a.holds C.prog (lone (Frame.enter C.prog f i.args .normal) [] (w.forCall tape i)))
  (contract:∀(W:World) (base:Nat) (args:Array Value) (ds gs:List (DataW H)) (before:List MemPlace),
   (∀(j:Nat) t v,fn.params[j]? =some t→args[j]? =some v→Value.okWide C.prog W .any base t v)→
   DataW.Whole enc C.prog fn.params.toList s.vars apart W args.toList ds gs before→
   (DataW.weightsEach C.prog (fn.params.toList++s.plain.varTypes C.prog) (ds++gs)).all (· ≤reachBytes)=true→
   X W args→W.ShapedOpen C.prog→
   Calls C.prog f args W fun e W'=>∃v,e= .returned v∧s.post enc C.prog fn apart fresh handsOn again W args v W'):
  ReturnsInHanded a C os f .any (fun w args=>(s.pre enc C.prog fn conds apart w args∧X w args)∧sizedMet enc C.prog fn (OpenSpec.ofChange s) apart w args) (s.post enc C.prog fn apart fresh handsOn again):=by
 refine returnsInHanded_of_calls own started noInit witness ?_
 intro w tape i _ hsh _ hok hpre hholds
 obtain⟨_,_,_,fn',hfn',_,_,_,_,hval⟩:=hok
 have e:fn'=fn:=Option.some.inj (hfn'.symm.trans hfn)
 subst e
 obtain⟨⟨⟨ds,gs,before,hw,hc⟩,hx⟩,hz⟩:=hpre
 have hw':=DataW.Whole.of_heap (w':=w.forCall tape i) (by rfl) hw
 refine(contract (w.forCall tape i) w.heap.size i.args ds gs before hval hw' (hz.weights hw) (hX _ _ _ (by rfl) hx) hsh).mono fun e W' ⟨v,he,hp⟩=> ?_
 subst he
 exact ChangeSpec.post_blind hp
end
abbrev DZ:List (String×DataW Unit):=[("math/bits.deBruijn32tab",Rows.laid_math_bits_deBruijn32tab),("math/bits.deBruijn64tab",Rows.laid_math_bits_deBruijn64tab),("internal/strconv.uint64pow10",Rows.laid_internal_strconv_uint64pow10),("unicode/utf8.acceptRanges",Rows.laid_unicode_utf8_acceptRanges),("strconv.ErrRange",Rows.laid_strconv_ErrRange),("strconv.ErrSyntax",Rows.laid_strconv_ErrSyntax),("unicode/utf8.first",Rows.laid_unicode_utf8_first)]
theorem M_{W:World}{g:Nat}{nm:String}{d:DataW Unit}(hg:Tryz.prog.globalNamed nm=some g)(ht:(Tryz.prog.globals[g]?).map (·.type)=some 186)(hd:∃u x,d= .iface u x)(h:Lib.VarReads Tryz.prog W nm d):∃ev,W.cell? ⟨g,0,none⟩=some ev∧(ev= .nilIface∨∃te pe,ev= .iface te pe):=by
 obtain⟨g',t,cs,fuel,p,h1,h2,h3,h4⟩:=h
 obtain rfl:g=g':=Option.some.inj (hg.symm.trans h1)
 obtain rfl:186=t:=Option.some.inj (ht.symm.trans h2)
 obtain⟨u,x,rfl⟩:=hd
 obtain⟨fuel',u,v,hcs, -, -⟩:=iface_of_trod (H:=Unit) Tryz.underlying186 h4
 have hc:=World.var?_cell h1 h3 0
 refine⟨.iface u v, ?_,.inr ⟨u,v,rfl⟩⟩
 rw[hc]
 have:cs= #[.iface u v]:=by
  rw[←Array.toList_inj,hcs]
 rw[this]
 rfl
theorem pow_eq:(Rows.laid_internal_strconv_uint64pow10:DataW Unit)=Lib.tabData .u64 Lib.pow10Tab:=by kernel_rfl
theorem Ui{W:World}(h:Lib.VarReads Tryz.prog W "internal/strconv.uint64pow10" Rows.laid_internal_strconv_uint64pow10):TP W:=by
 rw[pow_eq]at h
 obtain⟨g,t,cs,fuel,p,h1,h2,h3,h4⟩:=h
 obtain rfl:0=g:=Option.some.inj ((show Tryz.prog.globalNamed "internal/strconv.uint64pow10" =some 0 from by kernel_rfl).symm.trans h1)
 obtain rfl:244=t:=Option.some.inj ((show(Tryz.prog.globals[0]?).map (·.type)=some 244 from by kernel_rfl).symm.trans h2)
 have hc:=Lib.cells_of_tab (P:=Tryz.prog) (n:=20) (e:=35) Tryz.underlying244 Tryz.underlying35 (by kernel_rfl) (by kernel_rfl) h4
 unfold TP Lib.TabIs
 rw[h3,←hc]
structure kN(W:World):Prop where
 rd:Ready W
 se:SE W
 tp:TP W
theorem JA{W:World}(hL:laidMetH Tryz.prog DZ W)(hS:W.ShapedOpen Tryz.prog):kN W:=by
 rw[MakeChecks.laidMetH_plain _ _ _ (by kernel_rfl)]at hL
 have h1:=Lib.laidMet.reads hL (.tail _ (.tail _ (.tail _ (.head _))))
 have h2:=Lib.laidMet.reads hL (.tail _ (.tail _ (.tail _ (.tail _ (.tail _ (.tail _ (.head _)))))))
 have h3:=Lib.laidMet.reads hL (.tail _ (.tail _ (.head _)))
 have h4:=Lib.laidMet.reads hL (.tail _ (.tail _ (.tail _ (.tail _ (.tail _ (.head _))))))
 have h5:=Lib.laidMet.reads hL (.tail _ (.tail _ (.tail _ (.tail _ (.head _)))))
 rw[Jz]at h1
 rw[MZ]at h2
 exact⟨⟨utf8Tabs_of_reads Tryz.lays260 ⟨by kernel_rfl,by kernel_rfl,by kernel_rfl,by kernel_rfl,by kernel_rfl,by kernel_rfl,by kernel_rfl⟩ h2 h1,
  cell_of_shapedOpen_int (t:=3) (zero:= #[.int .i64 0]) hS (of_decide_eq_true (by kernel_rfl)) (by kernel_rfl) rfl (by kernel_rfl) (by kernel_rfl) Tryz.underlying3⟩,
  ⟨M_ (by kernel_rfl) (by kernel_rfl) ⟨_,_,rfl⟩ h4,M_ (by kernel_rfl) (by kernel_rfl) ⟨_,_,rfl⟩ h5⟩,Ui h3⟩
theorem kN.low{w w':World}{B:Nat}(h:kN w)(hb:Below B w w')(hB:8≤B):kN w':=⟨h.rd.low hb hB,h.se.low hb hB,h.tp.low hb hB⟩
theorem kN.next{w w':World}(h:kN w)(hb:Below w.heap.size w w'):kN w':=h.low hb h.rd.eight
end Go.Proofs.YtkblmloobkiloaaGreatDoor
